/-
  slices.IndexFunc, slices.ContainsFunc with a closure; clauses.Eval at a model.
-/
import Derived.Test.YtjifihfkoflbiaaModel
import Derived.Shelf.Abstract
namespace Go.Proofs.Ytjifihfkoflbiaa
open Go.RowKit

/-- the index of the first element that will do, or -1 -/
def idxF {α : Type} (ok : α → Bool) : Nat → List α → Int
  | _, [] => -1
  | i, x :: l => if ok x = true then i else idxF ok (i + 1) l
theorem idxF_step {α : Type} {ok : α → Bool} {l : List α} {k i : Nat} (h : k < l.length) : idxF ok i (l.drop k) = if ok l[k] = true then (i : Int) else idxF ok (i + 1) (l.drop (k + 1)) := by
  rw [List.drop_eq_getElem_cons h, idxF]
theorem idxF_neg {α : Type} {ok : α → Bool} : ∀ {l : List α} {i : Nat}, idxF ok i l < 0 ↔ ∀ x ∈ l, ok x = false
  | [], i => by simp [idxF]
  | x :: l, i => by
    simp only [idxF]
    cases h : ok x with
    | true => simp [h]
    | false => simp [h, idxF_neg (l := l)]

set_option maxHeartbeats 1000000 in
theorem ridx_c {P : Nat → Prop} {u : Value} {l : List (List Int)} (g : Nat) (lb : Array Value) (ok : (List Int) → Bool) (w : World) (hu : Arr (Arr RI) P w u l)
    (eg : ∀ args w, (callFunc g args).run Try.prog w = .ok (.enter g args) w)
    (hf : ∀ (W : World) (v : Value) (x : (List Int)), Ext w W → (Arr RI) anyB W v x → x ∈ l → Calls Try.prog g (#[v] ++ lb) W fun e W' => e = .returned (.bool (ok x)) ∧ Ext W W') :
    Calls Try.prog 54 #[u, .func (.func g) #[] lb] w fun e w' => e = .returned (.int .i64 (idxF ok 0 l)) ∧ Ext w w' := by
  have hle := hu.le
  have HF := Lib.hid hf
  clear hf
  go_enter Try.func54, Try.ntmps54
  go_wp2_with ((with_reducible refine w_len elR.und ?_ ?_ hu.len ?_); (· rfl); (· rfl); simp only [Act.put, List.setIfInBounds_toArray, List.set_cons_succ, List.set_cons_zero])
  go_loopw [8] (fun i wr => ∃ k : Nat, k ≤ l.length ∧ i = .int .i64 k ∧ Hid (idxF ok k (l.drop k) = idxF ok 0 l) ∧ Ext w wr) (fun i _ => l.length - (intOf i).toNat)
  case atStart => exact ⟨0, Nat.zero_le _, rfl, rfl, Ext.refl _⟩
  case round =>
    obtain ⟨k, hk, rfl, hn, hx⟩ := hrel
    have hu1 := hu.ext hx
    by_cases hlt : k < l.length
    · have hst := Lib.hid (idxF_step (ok := ok) (i := k) hlt)
      have hmem := List.getElem_mem hlt
      cases hok : ok l[k]
      · go_wp2_with (first | ((with_reducible refine w_ix elR ?_ ?_ ?_ ?_ ?_ hu1 hlt ?_); (· rfl); (· exact fun _ => rfl); (· exact fun _ => rfl); (· rfl); (· rfl); intro _ x hxx h1x; simp only [Act.put, List.setIfInBounds_toArray, List.set_cons_succ, List.set_cons_zero]) | (go_at_fn g; refine (HF.out _ _ _ hx (Good.any hxx) hmem).mono ?_; rintro e w2 ⟨rfl, hx2⟩; rw [hok]))
        go_roundw
        case rel => exact ⟨k + 1, hlt, by go_num, by show _ = _; rw [← hn.out, hst.out, if_neg (by simp [hok])], hx.trans hx2⟩
        case measure => simp [intOf]; omega
      · go_wp2_with (first | ((with_reducible refine w_ix elR ?_ ?_ ?_ ?_ ?_ hu1 hlt ?_); (· rfl); (· exact fun _ => rfl); (· exact fun _ => rfl); (· rfl); (· rfl); intro _ x hxx h1x; simp only [Act.put, List.setIfInBounds_toArray, List.set_cons_succ, List.set_cons_zero]) | (go_at_fn g; refine (HF.out _ _ _ hx (Good.any hxx) hmem).mono ?_; rintro e w2 ⟨rfl, hx2⟩; rw [hok]))
        go_ret
        exact ⟨ret_i (by rw [← hn.out, hst.out, if_pos hok]), hx.trans hx2⟩
    · obtain rfl : k = l.length := by omega
      go_wp2
      go_ret
      exact ⟨ret_i (by rw [← hn.out, List.drop_length, idxF]), hx⟩
set_option maxHeartbeats 1000000 in
theorem iidx_c {P : Nat → Prop} {u : Value} {l : List Int} (g : Nat) (lb : Array Value) (ok : Int → Bool) (w : World) (hu : Arr RI P w u l)
    (eg : ∀ args w, (callFunc g args).run Try.prog w = .ok (.enter g args) w)
    (hf : ∀ (W : World) (v : Value) (x : Int), Ext w W → RI anyB W v x → x ∈ l → Calls Try.prog g (#[v] ++ lb) W fun e W' => e = .returned (.bool (ok x)) ∧ Ext W W') :
    Calls Try.prog 68 #[u, .func (.func g) #[] lb] w fun e w' => e = .returned (.int .i64 (idxF ok 0 l)) ∧ Ext w w' := by
  have hle := hu.le
  have HF := Lib.hid hf
  clear hf
  go_enter Try.func68, Try.ntmps68
  go_wp2_with ((with_reducible refine w_len elI.und ?_ ?_ hu.len ?_); (· rfl); (· rfl); simp only [Act.put, List.setIfInBounds_toArray, List.set_cons_succ, List.set_cons_zero])
  go_loopw [8] (fun i wr => ∃ k : Nat, k ≤ l.length ∧ i = .int .i64 k ∧ Hid (idxF ok k (l.drop k) = idxF ok 0 l) ∧ Ext w wr) (fun i _ => l.length - (intOf i).toNat)
  case atStart => exact ⟨0, Nat.zero_le _, rfl, rfl, Ext.refl _⟩
  case round =>
    obtain ⟨k, hk, rfl, hn, hx⟩ := hrel
    have hu1 := hu.ext hx
    by_cases hlt : k < l.length
    · have hst := Lib.hid (idxF_step (ok := ok) (i := k) hlt)
      have hmem := List.getElem_mem hlt
      cases hok : ok l[k]
      · go_wp2_with (first | ((with_reducible refine w_ix elI ?_ ?_ ?_ ?_ ?_ hu1 hlt ?_); (· rfl); (· exact fun _ => rfl); (· exact fun _ => rfl); (· rfl); (· rfl); intro _ x hxx h1x; simp only [Act.put, List.setIfInBounds_toArray, List.set_cons_succ, List.set_cons_zero]) | (go_at_fn g; refine (HF.out _ _ _ hx (Good.any hxx) hmem).mono ?_; rintro e w2 ⟨rfl, hx2⟩; rw [hok]))
        go_roundw
        case rel => exact ⟨k + 1, hlt, by go_num, by show _ = _; rw [← hn.out, hst.out, if_neg (by simp [hok])], hx.trans hx2⟩
        case measure => simp [intOf]; omega
      · go_wp2_with (first | ((with_reducible refine w_ix elI ?_ ?_ ?_ ?_ ?_ hu1 hlt ?_); (· rfl); (· exact fun _ => rfl); (· exact fun _ => rfl); (· rfl); (· rfl); intro _ x hxx h1x; simp only [Act.put, List.setIfInBounds_toArray, List.set_cons_succ, List.set_cons_zero]) | (go_at_fn g; refine (HF.out _ _ _ hx (Good.any hxx) hmem).mono ?_; rintro e w2 ⟨rfl, hx2⟩; rw [hok]))
        go_ret
        exact ⟨ret_i (by rw [← hn.out, hst.out, if_pos hok]), hx.trans hx2⟩
    · obtain rfl : k = l.length := by omega
      go_wp2
      go_ret
      exact ⟨ret_i (by rw [← hn.out, List.drop_length, idxF]), hx⟩

theorem icontains_c {P : Nat → Prop} {u : Value} {l : List Int} (g : Nat) (lb : Array Value) (ok : Int → Bool) (w : World) (hu : Arr RI P w u l)
    (eg : ∀ args w, (callFunc g args).run Try.prog w = .ok (.enter g args) w)
    (hf : ∀ (W : World) (v : Value) (x : Int), Ext w W → RI anyB W v x → x ∈ l → Calls Try.prog g (#[v] ++ lb) W fun e W' => e = .returned (.bool (ok x)) ∧ Ext W W') :
    Calls Try.prog 56 #[u, .func (.func g) #[] lb] w fun e w' => e = .returned (.bool (l.any ok)) ∧ Ext w w' := by
  have hany : Hid (l.any ok = decide (0 ≤ idxF ok 0 l)) := by
    show _ = _
    have h := idxF_neg (ok := ok) (l := l) (i := 0)
    by_cases h0 : idxF ok 0 l < 0
    · rw [decide_eq_false (by omega)]
      have := h.1 h0
      rw [List.any_eq_false]
      intro x hx; simp [this x hx]
    · rw [decide_eq_true (by omega)]
      have : ¬ ∀ x ∈ l, ok x = false := fun hc => h0 (h.2 hc)
      rw [List.any_eq_true]
      exact Classical.byContradiction fun hc => this fun x hx => by
        cases ho : ok x with
        | false => rfl
        | true => exact absurd ⟨x, hx, ho⟩ hc
  go_enter Try.func56, Try.ntmps56
  go_wp2_with (go_at_call 68; refine (iidx_c g lb ok _ hu eg hf).mono ?_; rintro e w2 ⟨rfl, hx2⟩)
  go_ret
  exact ⟨ret_b (by rw [hany.out]), hx2⟩

/-- a model's value at a literal -/
def atM (m : List Int) (x : Int) : Bool := m.getD (x.natAbs - 1) 0 == x

set_option maxHeartbeats 1000000 in
theorem ev11_c {P : Nat → Prop} {am : Option Addr} {cm : Nat} {m : List Int} (B : Nat) (x : Int) (w : World) (hm : Ints P w (.slice am m.length cm) m) (hx0 : x ≠ 0) (hx1 : x.natAbs ≤ m.length) (hl : m.length ≤ 4096) (hb : w.cell? ⟨B, 0, none⟩ = some (.slice am m.length cm)) :
    Calls Try.prog 57 #[.int .i64 x, .pointer (some ⟨B, 0, none⟩)] w fun e w' => e = .returned (.bool (atM m x)) ∧ Ext w w' := by
  have hj : x.natAbs - 1 < m.length := by omega
  have hvar : ∀ w, Calls Try.prog 58 #[.int .i64 x] w fun e w' => e = .returned (.int .i64 (((x.natAbs - 1 : Nat) : Int) + 1)) ∧ w' = w := fun w => by
    have := variable_c x w
    rw [show pvarI x = ((x.natAbs - 1 : Nat) : Int) + 1 from by
      unfold pvarI varI wrap64
      split <;> split <;> omega] at this
    exact this
  obtain ⟨j, hjj⟩ : ∃ j, j = x.natAbs - 1 := ⟨_, rfl⟩
  rw [← hjj] at hj hvar
  have hat : Hid (atM m x = (m[j] == x)) := by
    show _ = _
    unfold atM
    rw [← hjj, List.getD_eq_getElem?_getD, List.getElem?_eq_getElem hj]; rfl
  have HV := Lib.hid hvar
  clear hjj hvar hx0 hx1
  go_enter Try.func57, Try.ntmps57
  go_wp2_with fail
  (refine wp_region_quiet_lit (by kernel_rfl) (by kernel_rfl) ?_; (repeat (first | go_big_quiet_skip |  ((with_reducible refine q_call Try.call58 ?_ ?_ (fun w hw => class_same hw (HV.out _)) ?_); (· rfl); (· rfl); simp only [Act.put, List.setIfInBounds_toArray, List.set_cons_succ, List.set_cons_zero]) | ((with_reducible refine q_ixI elI ?_ ?_ ?_ ?_ hm hj ext_of_class ?_ ?_); (· rfl); (· exact fun _ => rfl); (· rfl); (· rfl); (· exact fun _ => rfl); intro _; simp only [Act.put, List.setIfInBounds_toArray, List.set_cons_succ, List.set_cons_zero])  | go_big_quiet_step (fail))); refine wpQuiet_nil ?_; rintro _ ⟨nq, rfl⟩)
  go_wp2
  go_ret
  exact ⟨ret_b (by rw [hat.out]), Ext.of_drewN _ _⟩

theorem ev1_c {P P' : Nat → Prop} {am : Option Addr} {cm V : Nat} {m c : List Int} {v : Value} (B : Nat) (w : World) (hm : Ints P w (.slice am m.length cm) m) (hml : m.length = V) (hl : V ≤ 4096) (hb : w.cell? ⟨B, 0, none⟩ = some (.slice am m.length cm)) (hc : Ints P' w v c) (hw : WC V c) :
    Calls Try.prog 55 #[v, .pointer (some ⟨B, 0, none⟩)] w fun e w' => e = .returned (.bool (!(c.any (atM m)))) ∧ Ext w w' := by
  have hC := icontains_c 57 #[.pointer (some ⟨B, 0, none⟩)] (atM m) w hc Try.call57 (fun W y x hW hy hx => by
    cases (show y = .int .i64 x from hy)
    exact ev11_c B x W (hm.ext hW) (hw.rng x hx).1 (by have := (hw.rng x hx).2; omega) (by omega) (hW.cell hb))
  go_enter Try.func55, Try.ntmps55
  go_wp2_with (go_at_call 56; refine hC.mono ?_; rintro e w2 ⟨rfl, hx2⟩)
  go_ret
  exact ⟨rfl, hx2⟩

/-- a model of so many variables -/
structure IsM (V : Nat) (m : List Int) : Prop where
  len : m.length = V
  at' : ∀ k (h : k < m.length), m[k] = (k : Int) + 1 ∨ m[k] = -((k : Int) + 1)

theorem atM_iff {V : Nat} {m : List Int} (hm : IsM V m) {x : Int} (hx0 : x ≠ 0) (hx1 : x.natAbs ≤ V) : atM m x = true ↔ x ∈ m := by
  have hj : x.natAbs - 1 < m.length := by have := hm.len; omega
  unfold atM
  rw [List.getD_eq_getElem?_getD, List.getElem?_eq_getElem hj, Option.getD_some, beq_iff_eq]
  constructor
  · intro h; rw [← h]; exact List.getElem_mem hj
  · intro h
    obtain ⟨k, hk, e⟩ := List.getElem_of_mem h
    have h1 := hm.at' k hk
    have : k = x.natAbs - 1 := by rcases h1 with h1 | h1 <;> omega
    subst this; exact e
theorem anyM_eq {V : Nat} {m : List Int} (hm : IsM V m) {c : List Int} (hc : WC V c) : c.any (atM m) = trueI c m := by
  rw [Bool.eq_iff_iff, List.any_eq_true, trueI_iff]
  constructor
  · rintro ⟨x, hx, h⟩; exact ⟨x, hx, (atM_iff hm (hc.rng x hx).1 (hc.rng x hx).2).1 h⟩
  · rintro ⟨x, hx, h⟩; exact ⟨x, hx, (atM_iff hm (hc.rng x hx).1 (hc.rng x hx).2).2 h⟩
theorem modelI_isM (n : Nat) (bits : Int) : IsM n (modelI n bits) :=
  ⟨modelI_length n bits, fun k h => by rw [modelI_get h]; split; exact .inl rfl; exact .inr rfl⟩

/-- all clauses are true -/
def allT (l : List (List Int)) (m : List Int) : Bool := l.all fun c => trueI c m

set_option maxHeartbeats 2000000 in
theorem peval_c {P P' : Nat → Prop} {u vm : Value} {l : List (List Int)} {m : List Int} (V : Nat) (w : World) (hu : Rows P w u l) (hm : Ints P' w vm m) (hr : IRR l) (hck : checkI (V : Int) l = 0) (hM : IsM V m) :
    Calls Try.prog 33 #[.agg #[.int .i64 (V : Int), u], vm] w fun e w' => (∃ z, e = .returned (.tuple #[.int .i64 z, .bool (allT l m), .int .i64 0])) ∧ Ext w w' := by
  obtain ⟨am, cm, rfl⟩ := hm.len
  obtain ⟨_, hV', _, hcl⟩ := checkI_zero hck
  have hV : V ≤ 4096 := by omega
  have hwl := Lib.hid ((clausesI_iff hV).1 hcl)
  have Hck := Lib.hid hck
  have HM := Lib.hid hM
  have hml := Lib.hid hM.len
  have hle := hm.le
  have hlb : ((m.length : Int) != (V : Int)) = false := by rw [hM.len]; simp
  clear hck hM hcl
  have hall : Hid (allT l m = decide (idxF (fun c => !(c.any (atM m))) 0 l < 0)) := by
    show _ = _
    rw [Bool.eq_iff_iff, decide_eq_true_eq, idxF_neg]
    unfold allT
    rw [List.all_eq_true]
    constructor
    · intro h c hc; simp [anyM_eq HM.out (hwl.out c hc), h c hc]
    · intro h c hc; have := h c hc; simpa [anyM_eq HM.out (hwl.out c hc)] using this
  go_enter Try.func33, Try.ntmps33
  go_wp2_with (first | (go_at_call 38; refine (pcheck_c _ _ (hu.ext (((Ext.refl _).alloc _).alloc _)) hr).mono ?_; rintro e w1 ⟨rfl, hx1⟩; rw [Hck.out]; have hb0 : w1.cell? ⟨w.heap.size, 0, none⟩ = some (.int .i64 (V : Int)) := hx1.cell (((Ext.refl _).alloc _).cell (by simp)); have hb1 : w1.cell? ⟨w.heap.size, 1, none⟩ = some u := hx1.cell (((Ext.refl _).alloc _).cell (by simp)); have hb2 : w1.cell? ⟨w.heap.size + 1, 0, none⟩ = some (.slice am m.length cm) := hx1.cell (by simp); have hx := ((((Ext.refl w).alloc _).alloc _).trans hx1); have hu1 := hu.ext hx; have hm1 := hm.ext hx))
  go_loop [23] (fun i => ∃ k : Nat, k ≤ m.length ∧ i = .int .i64 k) (fun i => m.length - (intOf i).toNat)
  case atStart => exact ⟨0, Nat.zero_le _, rfl⟩
  case round =>
    obtain ⟨k, hk, rfl⟩ := hrel
    by_cases hlt : k < m.length
    · have hfacts : ((m[k] != ((k : Int) + 1)) = false) ∨ ((m[k] != ((k : Int) + 1)) = true ∧ (m[k] != (-(k : Int) - 1)) = false) := by
        rcases HM.out.at' k hlt with h | h
        · exact .inl (by simp [h])
        · exact .inr ⟨by rw [h]; simp; omega, by rw [h]; simp; omega⟩
      rcases hfacts with hf1 | ⟨hf1, hf2⟩
      · go_wp2_with (first | ((with_reducible refine w_ixI elI ?_ ?_ ?_ ?_ ?_ hm1 hlt ?_); (· rfl); (· exact fun _ => rfl); (· exact fun _ => rfl); (· rfl); (· rfl); intro _; simp only [Act.put, List.setIfInBounds_toArray, List.set_cons_succ, List.set_cons_zero]))
        go_round
        case rel => exact ⟨k + 1, hlt, by go_num⟩
        case measure => simp [intOf]; omega
      · go_wp2_with (first | ((with_reducible refine w_ixI elI ?_ ?_ ?_ ?_ ?_ hm1 hlt ?_); (· rfl); (· exact fun _ => rfl); (· exact fun _ => rfl); (· rfl); (· rfl); intro _; simp only [Act.put, List.setIfInBounds_toArray, List.set_cons_succ, List.set_cons_zero]))
        go_round
        case rel => exact ⟨k + 1, hlt, by go_num⟩
        case measure => simp [intOf]; omega
    · obtain rfl : k = m.length := by omega
      have hI := ridx_c 55 #[.pointer (some ⟨w.heap.size + 1, 0, none⟩)] (fun c => !(c.any (atM m))) w1 hu1 Try.call55 (fun W y c hW hy hc => ev1_c (w.heap.size + 1) W (hm1.ext hW) hml.out hV (hW.cell hb2) hy (hwl.out c hc))
      obtain ⟨q, hq⟩ : ∃ q, q = idxF (fun c => !(c.any (atM m))) 0 l := ⟨_, rfl⟩
      rw [← hq] at hI hall
      clear hq
      by_cases h0 : q < 0
      · have hd : Hid (allT l m = true) := by show _ = _; rw [hall.out]; exact decide_eq_true h0
        go_wp2_with (go_at_call 54; refine hI.mono ?_; rintro e w2 ⟨rfl, hx2⟩)
        go_ret3
        exact ⟨⟨_, by rw [hd.out]; rfl⟩, hx.trans hx2⟩
      · have hd : Hid (allT l m = false) := by show _ = _; rw [hall.out]; exact decide_eq_false h0
        go_wp2_with (go_at_call 54; refine hI.mono ?_; rintro e w2 ⟨rfl, hx2⟩)
        go_ret3
        exact ⟨⟨_, by rw [hall.out]; rfl⟩, hx.trans hx2⟩

end Go.Proofs.Ytjifihfkoflbiaa
