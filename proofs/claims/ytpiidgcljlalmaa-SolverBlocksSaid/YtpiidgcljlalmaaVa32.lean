/- Part 32: walks by contracts, and plain laws. -/
import Derived.Test.YtpiidgcljlalmaaVa23
import Derived.Test.YtpiidgcljlalmaaVa31
set_option linter.unusedVariables false
set_option linter.unusedSimpArgs false
set_option linter.unusedSectionVars false
namespace Go.Proofs.Ytpiidgcljlalmaa
open Go.RowKit

def idxF {α : Type} (ok : α → Bool) : Nat → List α → Int
  | _, [] => -1
  | i, x :: l => if ok x = true then i else idxF ok (i + 1) l
theorem idxF_step {α : Type} {ok : α → Bool} {l : List α} {k i : Nat} (h : k < l.length) : idxF ok i (l.drop k) = if ok l[k] = true then (i : Int) else idxF ok (i + 1) (l.drop (k + 1)) := by
  rw [List.drop_eq_getElem_cons h, idxF]
theorem idxF_neg {α : Type} {ok : α → Bool} : ∀ {l : List α} {i : Nat}, idxF ok i l < 0 ↔ ∀ x ∈ l, ok x = false
  | [], i => by simp [idxF]
  | x :: l, i => by
    simp only [idxF]
    cases h : ok x with
    | true => simp [h]
    | false => simp [h, idxF_neg (l := l)]

set_option maxHeartbeats 1000000 in
theorem ridx_c {P : Nat → Prop} {u : Value} {l : List (List Int)} (g : Nat) (lb : Array Value) (ok : (List Int) → Bool) (w : World) (hu : Arr (Arr RI) P w u l)
    (eg : ∀ args w, (callFunc g args).run Try.prog w = .ok (.enter g args) w)
    (hf : ∀ (W : World) (v : Value) (x : (List Int)), Ext w W → (Arr RI) anyB W v x → x ∈ l → Calls Try.prog g (#[v] ++ lb) W fun e W' => e = .returned (.bool (ok x)) ∧ Ext W W') :
    Calls Try.prog 41 #[u, .func (.func g) #[] lb] w fun e w' => e = .returned (.int .i64 (idxF ok 0 l)) ∧ Ext w w' := by
  have hle := hu.le
  have HF := Lib.hid hf
  clear hf
  go_enter Try.func41, Try.ntmps41
  go_wp2_with ((with_reducible refine w_len elR.und ?_ ?_ hu.len ?_); (· rfl); (· rfl); simp only [Act.put, List.setIfInBounds_toArray, List.set_cons_succ, List.set_cons_zero])
  go_loopw [8] (fun i wr => ∃ k : Nat, k ≤ l.length ∧ i = .int .i64 k ∧ Hid (idxF ok k (l.drop k) = idxF ok 0 l) ∧ Ext w wr) (fun i _ => l.length - (intOf i).toNat)
  case atStart => exact ⟨0, Nat.zero_le _, rfl, rfl, Ext.refl _⟩
  case round =>
    obtain ⟨k, hk, rfl, hn, hx⟩ := hrel
    have hu1 := hu.ext hx
    by_cases hlt : k < l.length
    · have hst := Lib.hid (idxF_step (ok := ok) (i := k) hlt)
      have hmem := List.getElem_mem hlt
      cases hok : ok l[k]
      · go_wp2_with (first | ((with_reducible refine w_ix elR ?_ ?_ ?_ ?_ ?_ hu1 hlt ?_); (· rfl); (· exact fun _ => rfl); (· exact fun _ => rfl); (· rfl); (· rfl); intro _ x hxx h1x; simp only [Act.put, List.setIfInBounds_toArray, List.set_cons_succ, List.set_cons_zero]) | (go_at_fn g; refine (HF.out _ _ _ hx (Good.any hxx) hmem).mono ?_; rintro e w2 ⟨rfl, hx2⟩; rw [hok]))
        go_roundw
        case rel => exact ⟨k + 1, hlt, by go_num, by show _ = _; rw [← hn.out, hst.out, if_neg (by simp [hok])], hx.trans hx2⟩
        case measure => simp [intOf]; omega
      · go_wp2_with (first | ((with_reducible refine w_ix elR ?_ ?_ ?_ ?_ ?_ hu1 hlt ?_); (· rfl); (· exact fun _ => rfl); (· exact fun _ => rfl); (· rfl); (· rfl); intro _ x hxx h1x; simp only [Act.put, List.setIfInBounds_toArray, List.set_cons_succ, List.set_cons_zero]) | (go_at_fn g; refine (HF.out _ _ _ hx (Good.any hxx) hmem).mono ?_; rintro e w2 ⟨rfl, hx2⟩; rw [hok]))
        go_ret
        exact ⟨ret_i (by rw [← hn.out, hst.out, if_pos hok]), hx.trans hx2⟩
    · obtain rfl : k = l.length := by omega
      go_wp2
      go_ret
      exact ⟨ret_i (by rw [← hn.out, List.drop_length, idxF]), hx⟩
set_option maxHeartbeats 1000000 in
theorem iidx_c {P : Nat → Prop} {u : Value} {l : List Int} (g : Nat) (lb : Array Value) (ok : Int → Bool) (w : World) (hu : Arr RI P w u l)
    (eg : ∀ args w, (callFunc g args).run Try.prog w = .ok (.enter g args) w)
    (hf : ∀ (W : World) (v : Value) (x : Int), Ext w W → RI anyB W v x → x ∈ l → Calls Try.prog g (#[v] ++ lb) W fun e W' => e = .returned (.bool (ok x)) ∧ Ext W W') :
    Calls Try.prog 70 #[u, .func (.func g) #[] lb] w fun e w' => e = .returned (.int .i64 (idxF ok 0 l)) ∧ Ext w w' := by
  have hle := hu.le
  have HF := Lib.hid hf
  clear hf
  go_enter Try.func70, Try.ntmps70
  go_wp2_with ((with_reducible refine w_len elI.und ?_ ?_ hu.len ?_); (· rfl); (· rfl); simp only [Act.put, List.setIfInBounds_toArray, List.set_cons_succ, List.set_cons_zero])
  go_loopw [8] (fun i wr => ∃ k : Nat, k ≤ l.length ∧ i = .int .i64 k ∧ Hid (idxF ok k (l.drop k) = idxF ok 0 l) ∧ Ext w wr) (fun i _ => l.length - (intOf i).toNat)
  case atStart => exact ⟨0, Nat.zero_le _, rfl, rfl, Ext.refl _⟩
  case round =>
    obtain ⟨k, hk, rfl, hn, hx⟩ := hrel
    have hu1 := hu.ext hx
    by_cases hlt : k < l.length
    · have hst := Lib.hid (idxF_step (ok := ok) (i := k) hlt)
      have hmem := List.getElem_mem hlt
      cases hok : ok l[k]
      · go_wp2_with (first | ((with_reducible refine w_ix elI ?_ ?_ ?_ ?_ ?_ hu1 hlt ?_); (· rfl); (· exact fun _ => rfl); (· exact fun _ => rfl); (· rfl); (· rfl); intro _ x hxx h1x; simp only [Act.put, List.setIfInBounds_toArray, List.set_cons_succ, List.set_cons_zero]) | (go_at_fn g; refine (HF.out _ _ _ hx (Good.any hxx) hmem).mono ?_; rintro e w2 ⟨rfl, hx2⟩; rw [hok]))
        go_roundw
        case rel => exact ⟨k + 1, hlt, by go_num, by show _ = _; rw [← hn.out, hst.out, if_neg (by simp [hok])], hx.trans hx2⟩
        case measure => simp [intOf]; omega
      · go_wp2_with (first | ((with_reducible refine w_ix elI ?_ ?_ ?_ ?_ ?_ hu1 hlt ?_); (· rfl); (· exact fun _ => rfl); (· exact fun _ => rfl); (· rfl); (· rfl); intro _ x hxx h1x; simp only [Act.put, List.setIfInBounds_toArray, List.set_cons_succ, List.set_cons_zero]) | (go_at_fn g; refine (HF.out _ _ _ hx (Good.any hxx) hmem).mono ?_; rintro e w2 ⟨rfl, hx2⟩; rw [hok]))
        go_ret
        exact ⟨ret_i (by rw [← hn.out, hst.out, if_pos hok]), hx.trans hx2⟩
    · obtain rfl : k = l.length := by omega
      go_wp2
      go_ret
      exact ⟨ret_i (by rw [← hn.out, List.drop_length, idxF]), hx⟩

theorem icontains_c {P : Nat → Prop} {u : Value} {l : List Int} (g : Nat) (lb : Array Value) (ok : Int → Bool) (w : World) (hu : Arr RI P w u l)
    (eg : ∀ args w, (callFunc g args).run Try.prog w = .ok (.enter g args) w)
    (hf : ∀ (W : World) (v : Value) (x : Int), Ext w W → RI anyB W v x → x ∈ l → Calls Try.prog g (#[v] ++ lb) W fun e W' => e = .returned (.bool (ok x)) ∧ Ext W W') :
    Calls Try.prog 43 #[u, .func (.func g) #[] lb] w fun e w' => e = .returned (.bool (l.any ok)) ∧ Ext w w' := by
  have hany : Hid (l.any ok = decide (0 ≤ idxF ok 0 l)) := by
    show _ = _
    have h := idxF_neg (ok := ok) (l := l) (i := 0)
    by_cases h0 : idxF ok 0 l < 0
    · rw [decide_eq_false (by omega)]
      have := h.1 h0
      rw [List.any_eq_false]
      intro x hx; simp [this x hx]
    · rw [decide_eq_true (by omega)]
      have : ¬ ∀ x ∈ l, ok x = false := fun hc => h0 (h.2 hc)
      rw [List.any_eq_true]
      exact Classical.byContradiction fun hc => this fun x hx => by
        cases ho : ok x with
        | false => rfl
        | true => exact absurd ⟨x, hx, ho⟩ hc
  go_enter Try.func43, Try.ntmps43
  go_wp2_with (go_at_call 70; refine (iidx_c g lb ok _ hu eg hf).mono ?_; rintro e w2 ⟨rfl, hx2⟩)
  go_ret
  exact ⟨ret_b (by rw [hany.out]), hx2⟩

def atM (m : List Int) (x : Int) : Bool := m.getD (x.natAbs - 1) 0 == x

set_option maxHeartbeats 1000000 in
theorem ev11_c {P : Nat → Prop} {am : Option Addr} {cm : Nat} {m : List Int} (B : Nat) (x : Int) (w : World) (hm : Ints P w (.slice am m.length cm) m) (hx0 : x ≠ 0) (hx1 : x.natAbs ≤ m.length) (hl : m.length ≤ 4096) (hb : w.cell? ⟨B, 0, none⟩ = some (.slice am m.length cm)) :
    Calls Try.prog 44 #[.int .i64 x, .pointer (some ⟨B, 0, none⟩)] w fun e w' => e = .returned (.bool (atM m x)) ∧ Ext w w' := by
  have hj : x.natAbs - 1 < m.length := by omega
  have hvar : ∀ w, Calls Try.prog 45 #[.int .i64 x] w fun e w' => e = .returned (.int .i64 (((x.natAbs - 1 : Nat) : Int) + 1)) ∧ w' = w := fun w => by
    have := variable_c x w
    rw [show pvarI x = ((x.natAbs - 1 : Nat) : Int) + 1 from by
      unfold pvarI varI wrap64
      split <;> split <;> omega] at this
    exact this
  obtain ⟨j, hjj⟩ : ∃ j, j = x.natAbs - 1 := ⟨_, rfl⟩
  rw [← hjj] at hj hvar
  have hat : Hid (atM m x = (m[j] == x)) := by
    show _ = _
    unfold atM
    rw [← hjj, List.getD_eq_getElem?_getD, List.getElem?_eq_getElem hj]; rfl
  have HV := Lib.hid hvar
  clear hjj hvar hx0 hx1
  go_enter Try.func44, Try.ntmps44
  go_wp2_with fail
  (refine wp_region_quiet_lit (by kernel_rfl) (by kernel_rfl) ?_; (repeat (first | go_big_quiet_skip |  ((with_reducible refine q_call Try.call45 ?_ ?_ (fun w hw => class_same hw (HV.out _)) ?_); (· rfl); (· rfl); simp only [Act.put, List.setIfInBounds_toArray, List.set_cons_succ, List.set_cons_zero]) | ((with_reducible refine q_ixI elI ?_ ?_ ?_ ?_ hm hj ext_of_class ?_ ?_); (· rfl); (· exact fun _ => rfl); (· rfl); (· rfl); (· exact fun _ => rfl); intro _; simp only [Act.put, List.setIfInBounds_toArray, List.set_cons_succ, List.set_cons_zero])  | go_big_quiet_step (fail))); refine wpQuiet_nil ?_; rintro _ ⟨nq, rfl⟩)
  go_wp2
  go_ret
  exact ⟨ret_b (by rw [hat.out]), Ext.of_drewN _ _⟩

theorem ev1_c {P P' : Nat → Prop} {am : Option Addr} {cm V : Nat} {m c : List Int} {v : Value} (B : Nat) (w : World) (hm : Ints P w (.slice am m.length cm) m) (hml : m.length = V) (hl : V ≤ 4096) (hb : w.cell? ⟨B, 0, none⟩ = some (.slice am m.length cm)) (hc : Ints P' w v c) (hw : WfC V c) :
    Calls Try.prog 42 #[v, .pointer (some ⟨B, 0, none⟩)] w fun e w' => e = .returned (.bool (!(c.any (atM m)))) ∧ Ext w w' := by
  have hC := icontains_c 44 #[.pointer (some ⟨B, 0, none⟩)] (atM m) w hc Try.call44 (fun W y x hW hy hx => by
    cases (show y = .int .i64 x from hy)
    exact ev11_c B x W (hm.ext hW) (hw.rng x hx).1 (by have := (hw.rng x hx).2; omega) (by omega) (hW.cell hb))
  go_enter Try.func42, Try.ntmps42
  go_wp2_with (go_at_call 43; refine hC.mono ?_; rintro e w2 ⟨rfl, hx2⟩)
  go_ret
  exact ⟨rfl, hx2⟩

structure IsM (V : Nat) (m : List Int) : Prop where
  len : m.length = V
  at' : ∀ k (h : k < m.length), m[k] = (k : Int) + 1 ∨ m[k] = -((k : Int) + 1)

theorem atM_iff {V : Nat} {m : List Int} (hm : IsM V m) {x : Int} (hx0 : x ≠ 0) (hx1 : x.natAbs ≤ V) : atM m x = true ↔ x ∈ m := by
  have hj : x.natAbs - 1 < m.length := by have := hm.len; omega
  unfold atM
  rw [List.getD_eq_getElem?_getD, List.getElem?_eq_getElem hj, Option.getD_some, beq_iff_eq]
  constructor
  · intro h; rw [← h]; exact List.getElem_mem hj
  · intro h
    obtain ⟨k, hk, e⟩ := List.getElem_of_mem h
    have h1 := hm.at' k hk
    have : k = x.natAbs - 1 := by rcases h1 with h1 | h1 <;> omega
    subst this; exact e
theorem anyM_eq {V : Nat} {m : List Int} (hm : IsM V m) {c : List Int} (hc : WfC V c) : c.any (atM m) = trueI c m := by
  rw [Bool.eq_iff_iff, List.any_eq_true, trueI_iff]
  constructor
  · rintro ⟨x, hx, h⟩; exact ⟨x, hx, (atM_iff hm (hc.rng x hx).1 (hc.rng x hx).2).1 h⟩
  · rintro ⟨x, hx, h⟩; exact ⟨x, hx, (atM_iff hm (hc.rng x hx).1 (hc.rng x hx).2).2 h⟩
def allT (l : List (List Int)) (m : List Int) : Bool := l.all fun c => trueI c m

set_option maxHeartbeats 2000000 in
theorem peval_c {P P' : Nat → Prop} {u vm : Value} {l : List (List Int)} {m : List Int} (V : Nat) (w : World) (hu : Rows P w u l) (hm : Ints P' w vm m) (hr : IRR l) (hck : checkI (V : Int) l = 0) (hM : IsM V m) :
    Calls Try.prog 14 #[.agg #[.int .i64 (V : Int), u], vm] w fun e w' => (∃ z, e = .returned (.tuple #[.int .i64 z, .bool (allT l m), .int .i64 0])) ∧ Ext w w' := by
  obtain ⟨am, cm, rfl⟩ := hm.len
  obtain ⟨_, hV', _, hcl⟩ := checkI_zero hck
  have hV : V ≤ 4096 := by omega
  have hwl := Lib.hid ((clausesI_iff hV).1 hcl)
  have Hck := Lib.hid hck
  have HM := Lib.hid hM
  have hml := Lib.hid hM.len
  have hle := hm.le
  have hlb : ((m.length : Int) != (V : Int)) = false := by rw [hM.len]; simp
  clear hck hM hcl
  have hall : Hid (allT l m = decide (idxF (fun c => !(c.any (atM m))) 0 l < 0)) := by
    show _ = _
    rw [Bool.eq_iff_iff, decide_eq_true_eq, idxF_neg]
    unfold allT
    rw [List.all_eq_true]
    constructor
    · intro h c hc; simp [anyM_eq HM.out (hwl.out c hc), h c hc]
    · intro h c hc; have := h c hc; simpa [anyM_eq HM.out (hwl.out c hc)] using this
  go_enter Try.func14, Try.ntmps14
  go_wp2_with (first | (go_at_call 38; refine (pcheck_c _ _ (hu.ext (((Ext.refl _).alloc _).alloc _)) hr).mono ?_; rintro e w1 ⟨rfl, hx1⟩; rw [Hck.out]; have hb0 : w1.cell? ⟨w.heap.size, 0, none⟩ = some (.int .i64 (V : Int)) := hx1.cell (((Ext.refl _).alloc _).cell (by simp)); have hb1 : w1.cell? ⟨w.heap.size, 1, none⟩ = some u := hx1.cell (((Ext.refl _).alloc _).cell (by simp)); have hb2 : w1.cell? ⟨w.heap.size + 1, 0, none⟩ = some (.slice am m.length cm) := hx1.cell (by simp); have hx := ((((Ext.refl w).alloc _).alloc _).trans hx1); have hu1 := hu.ext hx; have hm1 := hm.ext hx))
  go_loop [23] (fun i => ∃ k : Nat, k ≤ m.length ∧ i = .int .i64 k) (fun i => m.length - (intOf i).toNat)
  case atStart => exact ⟨0, Nat.zero_le _, rfl⟩
  case round =>
    obtain ⟨k, hk, rfl⟩ := hrel
    by_cases hlt : k < m.length
    · have hfacts : ((m[k] != ((k : Int) + 1)) = false) ∨ ((m[k] != ((k : Int) + 1)) = true ∧ (m[k] != (-(k : Int) - 1)) = false) := by
        rcases HM.out.at' k hlt with h | h
        · exact .inl (by simp [h])
        · exact .inr ⟨by rw [h]; simp; omega, by rw [h]; simp; omega⟩
      rcases hfacts with hf1 | ⟨hf1, hf2⟩
      · go_wp2_with (first | ((with_reducible refine w_ixI elI ?_ ?_ ?_ ?_ ?_ hm1 hlt ?_); (· rfl); (· exact fun _ => rfl); (· exact fun _ => rfl); (· rfl); (· rfl); intro _; simp only [Act.put, List.setIfInBounds_toArray, List.set_cons_succ, List.set_cons_zero]))
        go_round
        case rel => exact ⟨k + 1, hlt, by go_num⟩
        case measure => simp [intOf]; omega
      · go_wp2_with (first | ((with_reducible refine w_ixI elI ?_ ?_ ?_ ?_ ?_ hm1 hlt ?_); (· rfl); (· exact fun _ => rfl); (· exact fun _ => rfl); (· rfl); (· rfl); intro _; simp only [Act.put, List.setIfInBounds_toArray, List.set_cons_succ, List.set_cons_zero]))
        go_round
        case rel => exact ⟨k + 1, hlt, by go_num⟩
        case measure => simp [intOf]; omega
    · obtain rfl : k = m.length := by omega
      have hI := ridx_c 42 #[.pointer (some ⟨w.heap.size + 1, 0, none⟩)] (fun c => !(c.any (atM m))) w1 hu1 Try.call42 (fun W y c hW hy hc => ev1_c (w.heap.size + 1) W (hm1.ext hW) hml.out hV (hW.cell hb2) hy (hwl.out c hc))
      obtain ⟨q, hq⟩ : ∃ q, q = idxF (fun c => !(c.any (atM m))) 0 l := ⟨_, rfl⟩
      rw [← hq] at hI hall
      clear hq
      by_cases h0 : q < 0
      · have hd : Hid (allT l m = true) := by show _ = _; rw [hall.out]; exact decide_eq_true h0
        go_wp2_with (go_at_call 41; refine hI.mono ?_; rintro e w2 ⟨rfl, hx2⟩)
        go_ret3
        exact ⟨⟨_, by rw [hd.out]; rfl⟩, hx.trans hx2⟩
      · have hd : Hid (allT l m = false) := by show _ = _; rw [hall.out]; exact decide_eq_false h0
        go_wp2_with (go_at_call 41; refine hI.mono ?_; rintro e w2 ⟨rfl, hx2⟩)
        go_ret3
        exact ⟨⟨_, by rw [hall.out]; rfl⟩, hx.trans hx2⟩

end Go.Proofs.Ytpiidgcljlalmaa
namespace Go.Proofs.Ytpiidgcljlalmaa
open Go.RowKit
set_option maxRecDepth 100000
section
variable {P : Program} {f : FuncId} {res : Dat}
theorem Fn.old1 {α : Type} {R : Rel α} [Good R] {x : α} (h : ∀ (I : Nat → Prop) (w : World) (u : Value), R I w u x → Calls P f #[u] w fun e w' => ∃ r, e = .returned r ∧ Ext w w' ∧ res.rd (fun k => I k ∨ w.heap.size ≤ k) w' r) : Fn P f [dS R x] res := ⟨fun I w vs hl hv => by
  match vs, hl with
  | [u], _ => exact h I w u (hv 0 _ rfl)⟩
theorem Fn.old2 {α β : Type} {R : Rel α} [Good R] {S : Rel β} [Good S] {x : α} {y : β} (h : ∀ (I : Nat → Prop) (w : World) (u v : Value), R I w u x → S I w v y → Calls P f #[u, v] w fun e w' => ∃ r, e = .returned r ∧ Ext w w' ∧ res.rd (fun k => I k ∨ w.heap.size ≤ k) w' r) : Fn P f [dS R x, dS S y] res := ⟨fun I w vs hl hv => by
  match vs, hl with
  | [u, v], _ => exact h I w u v (hv 0 _ rfl) (hv 1 _ rfl)⟩
theorem dT2_rd {d0 d1 : Dat} {I : Nat → Prop} {w : World} {u0 u1 : Value} (h0 : d0.rd I w u0) (h1 : d1.rd I w u1) : (dT [d0, d1]).rd I w (.tuple #[u0, u1]) := ⟨[u0, u1], rfl, rfl, fun i d u hd hu => by
  match i, hd, hu with
  | 0, hd, hu => cases hd; cases hu; exact h0
  | 1, hd, hu => cases hd; cases hu; exact h1⟩
theorem dT3_rd {d0 d1 d2 : Dat} {I : Nat → Prop} {w : World} {u0 u1 u2 : Value} (h0 : d0.rd I w u0) (h1 : d1.rd I w u1) (h2 : d2.rd I w u2) : (dT [d0, d1, d2]).rd I w (.tuple #[u0, u1, u2]) := ⟨[u0, u1, u2], rfl, rfl, fun i d u hd hu => by
  match i, hd, hu with
  | 0, hd, hu => cases hd; cases hu; exact h0
  | 1, hd, hu => cases hd; cases hu; exact h1
  | 2, hd, hu => cases hd; cases hu; exact h2⟩
theorem cls_is {I : Nat → Prop} {w : World} {v : Value} {V : Int} {l : List (List Int)} (h : Cls I w v (V, l)) : ∃ u, v = .agg #[.int .i64 V, u] ∧ Rows I w u l := by
  obtain ⟨u, u', rfl, _, _, h1, h2⟩ := h
  cases (h1 : _ = _)
  exact ⟨u', rfl, h2⟩
end
theorem rcheck43_p (V : Int) (l : List (List Int)) : Fn Try.prog 37 [dS Cls (V, l)] (dI (checkI V l)) := Fn.old1 fun I w u hu => by
  obtain ⟨u', rfl, h⟩ := cls_is hu
  refine (check_c V w h).mono ?_
  rintro e w' ⟨rfl, hx⟩
  exact ⟨_, rfl, hx, rfl⟩
theorem few43_p (V : Int) (l : List (List Int)) : Fn Try.prog 36 [dS Cls (V, l)] (dB (fewB V l)) := Fn.old1 fun I w u hu => by
  obtain ⟨u', rfl, h⟩ := cls_is hu
  refine (few41_c V w h).mono ?_
  rintro e w' ⟨rfl, hx⟩
  exact ⟨_, rfl, hx, rfl⟩
theorem few42_p (p : List (List Int)) : Fn Try.prog 12 [dS Rows p] (dB (few2B p)) := Fn.old1 fun I w u hu => by
  refine (few42_c w hu).mono ?_
  rintro e w' ⟨rfl, rfl⟩
  exact ⟨_, rfl, Ext.refl _, rfl⟩
theorem check43_p (V : Int) (l : List (List Int)) (hr : IRR l) : Fn Try.prog 38 [dS Cls (V, l)] (dI (checkI V l)) := Fn.old1 fun I w u hu => by
  obtain ⟨u', rfl, h⟩ := cls_is hu
  refine (pcheck_c V w h hr).mono ?_
  rintro e w' ⟨rfl, hx⟩
  exact ⟨_, rfl, hx, rfl⟩
theorem verify43_p (V : Int) (l p : List (List Int)) (hr : IRR l) : Fn Try.prog 13 [dS Cls (V, l), dS Rows p] (dT [dI (verifyI V l p).1, dI (verifyI V l p).2]) := Fn.old2 fun I w u v hu hv => by
  obtain ⟨u', rfl, h⟩ := cls_is hu
  refine (pverify_c V w h hv hr).mono ?_
  rintro e w' ⟨rfl, hx⟩
  exact ⟨_, rfl, hx, dT2_rd rfl rfl⟩
theorem empty43_p (V : Int) (l : List (List Int)) (hr : IRR l) : Fn Try.prog 17 [dS Cls (V, l)] (dT [dB (emptyI V l).1, dI (emptyI V l).2]) := Fn.old1 fun I w u hu => by
  obtain ⟨u', rfl, h⟩ := cls_is hu
  refine (pempty_c V w h hr).mono ?_
  rintro e w' ⟨rfl, hx⟩
  exact ⟨_, rfl, hx, dT2_rd rfl rfl⟩
theorem trim43_p (V : Int) (l p : List (List Int)) (hr : IRR l) : Fn Try.prog 18 [dS Cls (V, l), dS Rows p] (dT [dS Rows (if (verifyI V l p).2 ≠ 0 then [] else trimI l p), dI (verifyI V l p).2]) := Fn.old2 fun I w u v hu hv => by
  obtain ⟨u', rfl, h⟩ := cls_is hu
  refine (ptrim_c V w h hv hr).mono ?_
  rintro e w' ⟨r, rfl, ⟨x, rfl, h1⟩, hx⟩
  exact ⟨_, rfl, hx, dT2_rd h1 rfl⟩
theorem core43_p (V : Int) (l p : List (List Int)) (hr : IRR l) : Fn Try.prog 19 [dS Cls (V, l), dS Rows p] (dT [dS Ints (if (verifyI V l p).2 ≠ 0 then [] else coreI l p), dI (verifyI V l p).2]) := Fn.old2 fun I w u v hu hv => by
  obtain ⟨u', rfl, h⟩ := cls_is hu
  refine (pcore_c V w h hv hr).mono ?_
  rintro e w' ⟨r, rfl, ⟨x, rfl, h1⟩, hx⟩
  exact ⟨_, rfl, hx, dT2_rd (Good.weak h1 fun k hk => .inr hk) rfl⟩
theorem eval43_p (V : Nat) (l : List (List Int)) (m : List Int) (hr : IRR l) (hck : checkI (V : Int) l = 0) (hM : IsM V m) : Fn Try.prog 14 [dS Cls ((V : Int), l), dS Ints m] (dT [dA, dB (allT l m), dI 0]) := Fn.old2 fun I w u v hu hv => by
  obtain ⟨u', rfl, h⟩ := cls_is hu
  refine (peval_c V w h hv hr hck hM).mono ?_
  rintro e w' ⟨⟨z, rfl⟩, hx⟩
  exact ⟨_, rfl, hx, dT3_rd trivial rfl rfl⟩
end Go.Proofs.Ytpiidgcljlalmaa
namespace Go.Proofs.Ytpiidgcljlalmaa
open Go.RowKit
section
variable {xs ys : List Int} {p : Int → Bool}
theorem fidx_cases (p : Int → Bool) (xs : List Int) : (fidx p xs = -1 ∧ ∀ x ∈ xs, p x = false) ∨ ∃ (k : Nat) (hk : k < xs.length), fidx p xs = (k : Int) ∧ p xs[k] = true ∧ ∀ j (hj : j < k), p (xs[j]'(by omega)) = false := by
  unfold fidx
  cases h : xs.findIdx? p with
  | none => exact .inl ⟨rfl, fun x hx => List.findIdx?_eq_none_iff.1 h x hx⟩
  | some n =>
    obtain ⟨h1, h2, h3⟩ := List.findIdx?_eq_some_iff_getElem.1 h
    exact .inr ⟨n, h1, rfl, h2, fun j hj => by have := h3 j hj; simpa using this⟩
theorem fidx_any (p : Int → Bool) (xs : List Int) : decide (0 ≤ fidx p xs) = xs.any p := by
  rcases fidx_cases p xs with ⟨h1, h2⟩ | ⟨k, hk, h1, h2, h3⟩
  · rw [h1, show xs.any p = false from List.any_eq_false.2 fun x hx => by simp [h2 x hx]]; rfl
  · rw [h1, show xs.any p = true from List.any_eq_true.2 ⟨_, List.getElem_mem hk, h2⟩]; simp
theorem take_filter {q : Int → Bool} {k : Nat} (hk : k ≤ xs.length) (h : ∀ j (hj : j < k), q (xs[j]'(by omega)) = true) : (xs.take k).filter q = xs.take k := by
  refine List.filter_eq_self.2 fun x hx => ?_
  obtain ⟨j, hj, rfl⟩ := List.mem_iff_getElem.1 hx
  rw [List.length_take] at hj
  rw [List.getElem_take]
  exact h j (by omega)
theorem del_keep {q : Int → Bool} {i j : Nat} (hj : j < xs.length) (hi : i = ((xs.take j).filter q).length) (hij : i < j) (hy : ys = (xs.take j).filter q ++ xs.drop i) (hq : q xs[j] = true) : ys.set i xs[j] = (xs.take (j + 1)).filter q ++ xs.drop (i + 1) ∧ i + 1 = ((xs.take (j + 1)).filter q).length := by
  rw [List.take_succ_eq_append_getElem hj, List.filter_append]
  have e1 : [xs[j]].filter q = [xs[j]] := by rw [List.filter_cons, if_pos hq, List.filter_nil]
  rw [e1]
  refine ⟨?_, by rw [List.length_append, ← hi]; rfl⟩
  rw [hy, List.set_append_right _ _ (by omega), ← hi, Nat.sub_self, List.drop_eq_getElem_cons (by omega : i < xs.length), List.set_cons_zero, List.append_assoc]
  rfl
theorem del_skip {q : Int → Bool} {j : Nat} (hj : j < xs.length) (hq : q xs[j] = false) : (xs.take (j + 1)).filter q = (xs.take j).filter q := by
  rw [List.take_succ_eq_append_getElem hj, List.filter_append, List.filter_cons, if_neg (by simp [hq]), List.filter_nil, List.append_nil]
theorem del_get {q : Int → Bool} {i j : Nat} (hj : j < xs.length) (hi : i = ((xs.take j).filter q).length) (hij : i < j) (hy : ys = (xs.take j).filter q ++ xs.drop i) (hl : j < ys.length) : ys[j] = xs[j] := by
  subst hy
  rw [List.getElem_append_right (by omega), List.getElem_drop]
  congr 1
  omega
theorem del_len {q : Int → Bool} {i j : Nat} (hj : j ≤ xs.length) (hi : i = ((xs.take j).filter q).length) (hij : i < j) (hy : ys = (xs.take j).filter q ++ xs.drop i) : ys.length = xs.length := by
  rw [hy, List.length_append, ← hi, List.length_drop]
  omega
end
set_option linter.unusedSimpArgs false
set_option linter.unusedVariables false
set_option maxHeartbeats 2000000
set_option maxRecDepth 100000
theorem index43_p (c : List Int) (x : Int) : Fn Try.prog 106 [dS Ints c, dI x] (dI (fidx (fun y => decide (x = y)) c)) := by
  (refine Fn.intro1 Try.func106 rfl rfl ?_; simp only [Try.ntmps106, List.length_cons, List.length_nil, Nat.reduceAdd, Nat.reduceSub, List.replicate_succ, List.replicate_zero, List.cons_append, List.nil_append])
  (repeat' (first | (apply WL.opN; exact yF; dsimp only [setD, z0, z1]) | refine WL.nil ?_ | refine WC.seqK fun Kx hK => ?_ | (refine hK _ _ ?_; clear hK) | refine WC.region ?_ | (apply WL.opN; (focus ((first | (apply SY.len; (exact oD); (exact nD); (exact uD)) | fail); all_goals infer_instance)); dsimp only [setD, z0, z1]) | refine WC.block ?_))
  (first | refine WC.know (t := 0) rfl le_K fun hl0 => ?_ | refine WC.know (t := 0) rfl le_A fun hl0 => ?_); simp only [maxLen] at hl0
  (refine WC.loopU (X := Nat) (fun k => [(8, dI (k : Int)), (4, dA), (5, dA), (9, dA), (10, dA), (11, dA), (12, dA), (13, dA), (14, dA), (15, dA), (16, dA), (17, dA), (18, dA)]) (fun k => []) (fun k => c.length - k) (fun k => k ≤ c.length ∧ ∀ j (hj : j < k) (hjl : j < c.length), ¬ x = c[j]) 0 ?start ?frame0 ?objs0 ?round)
  case start => exact ⟨Nat.zero_le _, fun j hj => absurd hj (Nat.not_lt_zero j)⟩
  case frame0 => ((try dsimp only [upds, z0, z1]); repeat (first | exact LeF.nil | refine LeF.co (k := ?_)))
  case objs0 => rfl
  case round =>
    rintro k ⟨h1, h2⟩
    dsimp only [upds, z0, z1]
    by_cases hk : k < c.length
    · have hlt : (k : Int) < (c.length : Int) := by omega
      by_cases he : x = c[k]
      · ((repeat' (first | (apply WL.opN; exact yF; dsimp only [setD, z0, z1]) | refine WL.nil ?_ | refine WC.seqK fun Kx hK => ?_ | (refine hK _ _ ?_; clear hK) | refine WC.region ?_ | (apply WL.opN; (focus ((first | (refine SY.ix (R := RI) (_gR := inferInstance) (k := k) elI (OpD.t rfl) (OpD.t rfl) hk) | ((first | apply SY.move | apply SY.assign | apply SY.lss | apply SY.eql) <;> (exact oD)) | fail); all_goals infer_instance)); dsimp only [setD, z0, z1]) | (apply WC.condD; (exact oD); all_goals (intro h; try exact xD)) | refine WC.skip ?_ | refine WC.ret ?_ | refine WC.block ?_ | refine ThenD.r ?_ | refine InBlockD.r ?_)); all_goals (first | ((repeat clear hK); (repeat clear Kx))))
        all_goals try (exfalso; first | contradiction | omega)
        (refine ⟨trivial, _, rfl, ?_⟩; refine FinD.i ?_)
        rw [fidx_hit hk (by simpa using he) fun j hj => by simpa using h2 j hj (by omega)]
      · ((repeat' (first | (apply WL.opN; exact yF; dsimp only [setD, z0, z1]) | refine WL.nil ?_ | refine WC.seqK fun Kx hK => ?_ | (refine hK _ _ ?_; clear hK) | refine WC.region ?_ | (apply WL.opN; (focus ((first | (refine SY.ix (R := RI) (_gR := inferInstance) (k := k) elI (OpD.t rfl) (OpD.t rfl) hk) | ((first | apply SY.move | apply SY.assign | apply SY.lss | apply SY.eql) <;> (exact oD)) | ((first | apply SY.add) <;> first | exact oD | omega) | fail); all_goals infer_instance)); dsimp only [setD, z0, z1]) | (apply WC.condD; (exact oD); all_goals (intro h; try exact xD)) | refine WC.skip ?_ | refine WC.block ?_ | refine ThenD.n ?_)); all_goals (first | ((repeat clear hK); (repeat clear Kx))))
        all_goals try (exfalso; first | contradiction | omega)
        (refine ⟨k + 1, ?_, by first | omega | (simp only; omega), rfl, ?_⟩; rotate_left; ((try dsimp only [upds, z0, z1]); repeat (first | exact LeF.nil | refine LeF.co (k := ?_))); (try dsimp only))
        refine ⟨by omega, fun j hj hjl => ?_⟩
        rcases (by omega : j < k ∨ j = k) with h3 | rfl
        · exact h2 j h3 hjl
        · exact he
    · have hlt : ¬ (k : Int) < (c.length : Int) := by omega
      ((repeat' (first | (apply WL.opN; exact yF; dsimp only [setD, z0, z1]) | refine WL.nil ?_ | refine WC.seqK fun Kx hK => ?_ | (refine hK _ _ ?_; clear hK) | (refine Kont.skip ?_; clear hK) | refine WC.region ?_ | (apply WL.opN; (focus ((first | ((first | apply SY.move | apply SY.assign | apply SY.lss | apply SY.eql) <;> (exact oD)) | fail); all_goals infer_instance)); dsimp only [setD, z0, z1]) | (apply WC.condD; (exact oD); all_goals (intro h; try exact xD)) | refine WC.ret ?_ | refine WC.exit ?_)); all_goals (first | ((repeat clear hK); (repeat clear Kx))))
      all_goals try (exfalso; first | contradiction | omega)
      (refine ⟨trivial, _, rfl, ?_⟩; refine FinD.i ?_)
      rw [fidx_none fun j hj => by simpa using h2 j (by omega) hj]
theorem contains43_p (c : List Int) (x : Int) : Fn Try.prog 95 [dS Ints c, dI x] (dB (decide (x ∈ c))) := by
  (refine Fn.intro1 Try.func95 rfl rfl ?_; simp only [Try.ntmps95, List.length_cons, List.length_nil, Nat.reduceAdd, Nat.reduceSub, List.replicate_succ, List.replicate_zero, List.cons_append, List.nil_append])
  ((repeat' (first | (apply WL.opN; exact yF; dsimp only [setD, z0, z1]) | refine WL.nil ?_ | refine WC.seqK fun Kx hK => ?_ | (refine hK _ _ ?_; clear hK) | refine WC.region ?_ | (apply WL.opN; (focus ((first | (apply SY.call (index43_p _ _) Try.call106; (exact aD)) | ((first | apply SY.move | apply SY.assign | apply SY.geq) <;> (exact oD)) | fail); all_goals infer_instance)); dsimp only [setD, z0, z1]) | refine WC.ret ?_)); all_goals (first | ((repeat clear hK); (repeat clear Kx))))
  all_goals ((refine ⟨trivial, _, rfl, ?_⟩; refine FinD.b ?_); show decide (0 ≤ fidx (fun y => decide (x = y)) c) = _; rw [fidx_any, Bool.eq_iff_iff, List.any_eq_true, decide_eq_true_eq]; simp)
def idxG {α : Type} (p : α → Bool) : Nat → List α → Int
  | _, [] => -1
  | k, x :: l => if p x = true then (k : Int) else idxG p (k + 1) l
theorem idxG_drop {α : Type} {p : α → Bool} {l : List α} {k : Nat} (h : k < l.length) : idxG p k (l.drop k) = if p l[k] = true then (k : Int) else idxG p (k + 1) (l.drop (k + 1)) := by
  rw [List.drop_eq_getElem_cons h]; rfl
theorem idxG_iff {α : Type} {p : α → Bool} : ∀ (l : List α) (k : Nat), decide (0 ≤ idxG p k l) = l.any p
  | [], k => by simp [idxG]
  | x :: l, k => by
    unfold idxG
    rw [List.any_cons]
    split
    · rename_i h; rw [h]; simp
    · rename_i h; rw [idxG_iff l]; simp [h]
abbrev dPredR (p : List Int → Bool) : Dat := dFun Try.prog (fun v : List Int => [dS Ints v]) (fun v => dB (p v))
theorem idxR_p (l : List (List Int)) (p : List Int → Bool) : Fn Try.prog 41 [dS Rows l, dPredR p] (dI (idxG p 0 l)) := by
  (refine Fn.intro1 Try.func41 rfl rfl ?_; simp only [Try.ntmps41, List.length_cons, List.length_nil, Nat.reduceAdd, Nat.reduceSub, List.replicate_succ, List.replicate_zero, List.cons_append, List.nil_append])
  (repeat' (first | (apply WL.opN; exact yF; dsimp only [setD, z0, z1]) | refine WL.nil ?_ | refine WC.seqK fun Kx hK => ?_ | (refine hK _ _ ?_; clear hK) | refine WC.region ?_ | (apply WL.opN; (focus ((first | (apply SY.len; (exact oD); (exact nD); (exact uD)) | fail); all_goals infer_instance)); dsimp only [setD, z0, z1]) | refine WC.block ?_))
  (first | refine WC.know (t := 0) rfl le_K fun hl0 => ?_ | refine WC.know (t := 0) rfl le_A fun hl0 => ?_); simp only [maxLen] at hl0
  (refine WC.loopU (X := Nat) (fun k => [(8, dI (k : Int)), (4, dA), (5, dA), (9, dA), (10, dA), (11, dA), (12, dA), (13, dA), (14, dA), (15, dA), (16, dA), (17, dA), (18, dA)]) (fun k => []) (fun k => l.length - k) (fun k => k ≤ l.length ∧ idxG p 0 l = idxG p k (l.drop k)) 0 ?start ?frame0 ?objs0 ?round)
  case start => exact ⟨Nat.zero_le _, rfl⟩
  case frame0 => ((try dsimp only [upds, z0, z1]); repeat (first | exact LeF.nil | refine LeF.co (k := ?_)))
  case objs0 => rfl
  case round =>
    rintro k ⟨h1, h2⟩
    dsimp only [upds, z0, z1]
    ((repeat' (first | (apply WL.opN; exact yF; dsimp only [setD, z0, z1]) | refine WL.nil ?_ | refine WC.seqK fun Kx hK => ?_ | (refine hK _ _ ?_; clear hK) | (refine Kont.skip ?_; clear hK) | refine WC.region ?_ | (apply WL.opN; (focus ((first | (apply SY.dynF (x := l[k]); (exact OpD.t rfl); (exact aD)) | ((first | apply SY.move | apply SY.assign | apply SY.lss) <;> (exact oD)) | ((first | apply SY.add) <;> first | exact oD | omega) | (apply SY.ix; (exact eD); (exact oD); (exact oD); exact kD) | fail); all_goals infer_instance)); dsimp only [setD, z0, z1]) | (apply WC.condD; (exact oD); all_goals (intro h; try exact xD)) | (apply WC.cond; (exact oD); all_goals (intro h; try exact xD)) | refine WC.skip ?_ | refine WC.ret ?_ | refine WC.exit ?_ | refine WC.block ?_ | refine ThenD.n ?_ | refine ThenD.r ?_ | refine InBlockD.r ?_)); all_goals (first | ((repeat clear hK); (repeat clear Kx))))
    · (refine ⟨trivial, _, rfl, ?_⟩; refine FinD.i ?_)
      rw [h2, idxG_drop (by omega), if_pos h]
    · (refine ⟨k + 1, ?_, by first | omega | (simp only; omega), rfl, ?_⟩; rotate_left; ((try dsimp only [upds, z0, z1]); repeat (first | exact LeF.nil | refine LeF.co (k := ?_))); (try dsimp only))
      exact ⟨by omega, by rw [h2, idxG_drop (by omega), if_neg (by simp [h])]⟩
    · (refine ⟨trivial, _, rfl, ?_⟩; refine FinD.i ?_)
      rw [h2, List.drop_of_length_le (by omega)]; rfl
theorem cntR_p (l : List (List Int)) (p : List Int → Bool) : Fn Try.prog 33 [dS Rows l, dPredR p] (dB (l.any p)) := by
  (refine Fn.intro1 Try.func33 rfl rfl ?_; simp only [Try.ntmps33, List.length_cons, List.length_nil, Nat.reduceAdd, Nat.reduceSub, List.replicate_succ, List.replicate_zero, List.cons_append, List.nil_append])
  ((repeat' (first | (apply WL.opN; exact yF; dsimp only [setD, z0, z1]) | refine WL.nil ?_ | refine WC.seqK fun Kx hK => ?_ | (refine hK _ _ ?_; clear hK) | refine WC.region ?_ | (apply WL.opN; (focus ((first | (apply SY.call (idxR_p _ _) Try.call41; (exact aD)) | ((first | apply SY.move | apply SY.assign | apply SY.geq) <;> (exact oD)) | fail); all_goals infer_instance)); dsimp only [setD, z0, z1]) | refine WC.ret ?_)); all_goals (first | ((repeat clear hK); (repeat clear Kx))))
  all_goals ((refine ⟨trivial, _, rfl, ?_⟩; refine FinD.b ?_); exact idxG_iff _ _)
end Go.Proofs.Ytpiidgcljlalmaa
