/-
  The program's Trim and Core: they hand back what the reference's do.
-/
import Derived.Test.YtjifihfkoflbiaaRed
import Derived.Test.YtjifihfkoflbiaaPVer
namespace Go.Proofs.Ytjifihfkoflbiaa
open Go.RowKit

theorem grownBy_setRow (w : World) (g : Nat) (cs : Array Value) : w.grownBy (w.setRow g cs) (some g) :=
  ⟨rfl, rfl, rfl, by simp, fun k _ hne => setRow_other w g k cs (fun e => hne (by rw [e]))⟩

section
variable {P : Program} {ops : Array Oper} {rest : List Oper} {o : Oper} {a : Act} {Q : Exit → Act → World → Prop} {w : World} {t e : TypeId} {z : Value} {bytes : Nat}

/-- a store into a row that a call owns -/
theorem Own.set {α : Type} {R : Rel α} [Good R] {B : Nat} {PB : Nat → Prop} {v : Value} {xs : List α} {k : Nat} (hv : Own B e R PB w v xs) (hk : k < xs.length) {u : Value} (hu1 : u.oneCell' = true) (y : α) (hu : R (fun b => PB b ∧ v.ownBlock ≠ some b) w u y) :
    ∃ g cap, v = .slice (some ⟨g, 0, none⟩) xs.length cap ∧ (store ((⟨g, k, none⟩ : Addr).add 0) u).run P w = .ok () (w.setCell ⟨g, k, none⟩ u) ∧ Own B e R PB (w.setCell ⟨g, k, none⟩ u) v (xs.set k y) ∧ w.grownBy (w.setCell ⟨g, k, none⟩ u) (some g) ∧ v.ownBlock = some g := by
  obtain ⟨us, hl, ⟨hul, ho⟩, he⟩ := hv
  rcases ho with ⟨rfl, h0⟩ | ⟨g, cap, cur, rfl, hB, hg, hn, hm, hs, ht⟩
  · omega
  · rw [Nat.mul_one] at hs ht
    have hkc : k < cur.size := by omega
    have hset := setCell_eq_setRow w g k cur e (0, 0) u hg
    have hc : w.cell? ⟨g, k, none⟩ = some cur[k] := by simp [World.cell?, hg, hkc]
    have hf : w.frozen? ⟨g, k, none⟩ = false := by simp [World.frozen?, hg]
    have hgr := grownBy_setRow w g (cur.setIfInBounds k u)
    refine ⟨g, cap, rfl, ?_, ⟨us.set k u, by simp [hl], ⟨by simp [hul], .inr ⟨g, cap, cur.setIfInBounds k u, by simp, hB, ?_, by simpa using hn, hm, by simpa using hs, ?_⟩⟩, ?_⟩, by rw [hset]; exact hgr, rfl⟩
    · rw [show ((⟨g, k, none⟩ : Addr).add 0) = ⟨g, k, none⟩ from rfl, run_store P w _ u _ hu1, hc]
      simp [hf]
    · rw [hset]; exact setRow_heap w g cur _ e _ hg
    · simp only [List.length_set, Nat.mul_one, Array.toList_setIfInBounds]
      rw [← ht, List.take_set]
    · intro j h1 h2
      simp only [List.length_set] at h1 h2
      rw [List.getElem_set, List.getElem_set, hset]
      by_cases hkj : k = j
      · rw [if_pos hkj, if_pos hkj]
        exact ⟨hu1, Good.grown hu hgr (fun r hr hc => hc.2 (by cases hr; rfl))⟩
      · rw [if_neg hkj, if_neg hkj]
        exact ⟨(he j h1 h2).1, Good.grown (he j h1 h2).2 hgr (fun r hr hc => hc.2 (by cases hr; rfl))⟩

/-- v[k] = u -/
theorem w_setO {x i y : Operand} {d : Tmp} {ty1 ty2 : TypeId} {ps1 ps2 : String} {af1 af2 : Array Edge} (E : ElT P t e 1 z bytes false)
    (hdl : ∀ p : Value, (a.put (some d) p).eval (.tmp d) = p) {α : Type} {R : Rel α} [Good R] {B : Nat} {PB : Nat → Prop} {v : Value} {xs : List α} {k : Nat} (hx : a.eval x = v) (hi : a.eval i = .int .i64 (k : Int))
    {u : Value} (hy : ∀ p : Value, (a.put (some d) p).eval y = u) (hv : Own B e R PB w v xs) (hk : k < xs.length) (hu1 : u.oneCell' = true) (yy : α) (hu : R (fun b => PB b ∧ v.ownBlock ≠ some b) w u yy)
    (h : ∀ (p : Value) (w' : World), Own B e R PB w' v (xs.set k yy) → w.grownBy w' v.ownBlock → wpList P ops Q rest (a.put (some d) p) w') :
    wpList P ops Q ({ dst := some d, op := .indexAddr t x i, type := ty1, pos := ps1, after := af1, guard := none } :: { dst := none, op := .store e (.tmp d) y, type := ty2, pos := ps2, after := af2, guard := none } :: rest) a w := by
  obtain ⟨g, cap, rfl, hst, ho, hgr, hob⟩ := Own.set (P := P) hv hk hu1 yy hu
  have hix := run_indexAt (w := w) E g 0 xs.length cap k .i64 hk
  rw [Nat.mul_one, Nat.zero_add] at hix
  refine wpList_value rfl (v := .pointer (some ⟨g, k, none⟩)) (w' := w) ?_ ?_
  · unfold execOp
    simp only [hx, hi, Sem.run_bind, hix, Result.andThen_ok, Sem.run_pure]
  · refine wpList_skip rfl (w' := w.setCell ⟨g, k, none⟩ u) ?_ (h _ _ ho (by rw [hob]; exact hgr))
    have he := hdl (.pointer (some ⟨g, k, none⟩))
    have hy' := hy (.pointer (some ⟨g, k, none⟩))
    unfold execOp
    simp only [he, hy', Instr.storeAt, Instr.sureAddr, storeVar, Sem.run_bind, E.size, Result.andThen_ok, Sem.run_pure]
    simp [cells_one hu1, storeCells, hst]
end

theorem Own.ints {B : Nat} {e : TypeId} {P P' : Nat → Prop} {w : World} {v : Value} {xs : List Int} (h : Own B e RI P w v xs) : Own B e RI P' w v xs := by
  obtain ⟨us, hl, ho, he⟩ := h
  exact ⟨us, hl, ho, fun k h1 h2 => ⟨(he k h1 h2).1, (he k h1 h2).2⟩⟩
theorem Own.one {α : Type} {R : Rel α} {B : Nat} {e : TypeId} {P : Nat → Prop} {w : World} {v : Value} {xs : List α} (h : Own B e R P w v xs) : v.oneCell' = true := by
  obtain ⟨a, c, rfl⟩ := h.len
  rfl
theorem own_clone {α : Type} {R : Rel α} {B c0 : Nat} {e e' : TypeId} {P P' Q : Nat → Prop} {w w4 : World} {x c : Value} {L : List α} {ys : List Int} (ho : Own B e R P w x L) (h4 : Own w.heap.size e' RI P' w4 c ys) (hc0 : c0 ≤ w.heap.size) :
    Arr RI (fun b => (Q b ∨ c0 ≤ b) ∧ x.ownBlock ≠ some b) w4 c ys :=
  Good.weak (R := Arr RI) (h4.ints (P' := noB)).arr (fun b hb => by
    have hb' : w.heap.size ≤ b := hb.resolve_left (fun h => h)
    exact ⟨.inr (Nat.le_trans hc0 hb'), fun hc => Nat.not_le.2 (ho.lt b hc).2 hb'⟩)
theorem list_set_self {α : Type} {xs : List α} {k : Nat} (h : k < xs.length) : xs.set k xs[k] = xs := by
  apply List.ext_getElem
  · simp
  · intro i h1 h2
    rw [List.getElem_set]
    split
    · rename_i e; subst e; rfl
    · rfl

theorem refI_ok (l p : List (List Int)) : ((refI l p).2 == 0) = refutesI l p := by
  unfold refI refutesI
  by_cases h : 0 ≤ gapI l p
  · rw [if_pos h, decide_eq_false (by omega)]; rfl
  · rw [if_neg h, decide_eq_true (by omega)]; rfl

theorem trim1_c {P P' : Nat → Prop} {u v : Value} {l p : List (List Int)} (V b : Nat) (w : World) (hV : V ≤ 4096) (hu : Rows P w u l) (hv : Rows P' w v p) (hl : WL V l) (hp : WL V p)
    (hb0 : w.cell? ⟨b, 0, none⟩ = some (.int .i64 (V : Int))) (hb1 : w.cell? ⟨b, 1, none⟩ = some u) :
    Calls Try.prog 43 #[v, .pointer (some ⟨b, 0, none⟩)] w fun e w' => e = .returned (.bool (refutesI l p)) ∧ Ext w w' := by
  have hr := Lib.hid (refI_ok l p)
  go_enter Try.func43, Try.ntmps43
  go_wp2_with (go_at_call 40; refine (prefutes_c V _ hV hu hv hl hp).mono ?_; rintro e w2 ⟨rfl, hx2⟩)
  go_ret
  exact ⟨ret_b (by rw [← hr.out]), hx2⟩

theorem core1_c {P P' : Nat → Prop} {u v : Value} {l p : List (List Int)} (V b c : Nat) (w : World) (hV : V ≤ 4096) (hu : Rows P w u l) (hv : Rows P' w v p) (hl : WL V l) (hp : WL V p)
    (hb0 : w.cell? ⟨b, 0, none⟩ = some (.int .i64 (V : Int))) (hb1 : w.cell? ⟨c, 0, none⟩ = some v) :
    Calls Try.prog 46 #[u, .pointer (some ⟨b, 0, none⟩), .pointer (some ⟨c, 0, none⟩)] w fun e w' => e = .returned (.bool (refutesI l p)) ∧ Ext w w' := by
  have hr := Lib.hid (refI_ok l p)
  go_enter Try.func46, Try.ntmps46
  go_wp2_with (go_at_call 40; refine (prefutes_c V _ hV hu hv hl hp).mono ?_; rintro e w2 ⟨rfl, hx2⟩)
  go_ret
  exact ⟨ret_b (by rw [← hr.out]), hx2⟩

theorem wc_length {V : Nat} (hV : V ≤ 4096) {c : List Int} (h : WC V c) : c.length ≤ 4096 := by
  have key : ∀ (c : List Int) (m : Nat), (∀ x ∈ c, m ≤ x.natAbs ∧ x.natAbs ≤ V) → (c.Pairwise fun x y => x.natAbs < y.natAbs) → c.length + m ≤ V + 1 ∨ c = [] := by
    intro c
    induction c with
    | nil => intro m _ _; exact .inr rfl
    | cons x c ih =>
      intro m h1 h2
      have h3 := List.pairwise_cons.1 h2
      have hx := h1 x (by simp)
      refine .inl ?_
      rcases ih (x.natAbs + 1) (fun y hy => ⟨h3.1 y hy, (h1 y (by simp [hy])).2⟩) h3.2 with h | rfl
      · simp only [List.length_cons]; omega
      · simp; omega
  rcases key c 1 (fun x hx => ⟨by have := (h.rng x hx).1; omega, (h.rng x hx).2⟩) h.inc with h | rfl
  · omega
  · simp

set_option maxHeartbeats 1000000 in
/-- Trim of the program -/
theorem ptrim_c {P P' : Nat → Prop} {u v : Value} {l p : List (List Int)} (vars : Int) (w : World) (hu : Rows P w u l) (hv : Rows P' w v p) (hr : IRR l) :
    Calls Try.prog 15 #[.agg #[.int .i64 vars, u], v] w (RetP (fun w' r => ∃ x, r = .tuple #[x, .int .i64 (verifyI vars l p).2] ∧ Rows (fun k => P' k ∨ w.heap.size ≤ k) w' x (if (verifyI vars l p).2 ≠ 0 then [] else trimI l p)) w) := by
  have hle := hv.le
  by_cases hz : (verifyI vars l p).2 = 0
  · have Hz := Lib.hid hz
    obtain ⟨hc, hp, hbad, hgap⟩ := verifyI_ok hz
    obtain ⟨h0, h1, _, h2⟩ := checkI_zero hc
    obtain ⟨V, rfl⟩ : ∃ V : Nat, vars = (V : Int) := ⟨vars.toNat, by omega⟩
    have hV : V ≤ 4096 := by omega
    have hwl := Lib.hid ((clausesI_iff hV).1 h2)
    have hwp := Lib.hid (badI_wl hV hbad)
    have hne : 0 < p.length := by
      cases p with
      | nil => rw [gapI_nil] at hgap; omega
      | cons _ _ => simp
    have hj : Hid ((p.length : Int) - 1 = ((p.length - 1 : Nat) : Int)) := by show _ = _; omega
    clear hc hbad hgap h0 h1 h2 hz
    go_enter Try.func15, Try.ntmps15
    go_wp2_with (first | (go_at_call 13; refine (pverify_c _ _ (hu.ext (Ext.of_alloc _ _)) (hv.ext (Ext.of_alloc _ _)) hr).mono ?_; rintro e w1 ⟨rfl, hx1⟩; rw [Hz.out]) | ((with_reducible refine w_len elR.und ?_ ?_ hv.len ?_); (· rfl); (· rfl); simp only [Act.put, List.setIfInBounds_toArray, List.set_cons_succ, List.set_cons_zero]))
    have hb0 : w1.cell? ⟨w.heap.size, 0, none⟩ = some (.int .i64 (V : Int)) := hx1.cell (by simp)
    have hb1 : w1.cell? ⟨w.heap.size, 1, none⟩ = some u := hx1.cell (by simp)
    have hx := (Ext.of_alloc w _).trans hx1
    have hv1 := hv.ext hx
    have hu1 := hu.ext hx
    have hR := reduced_c (p.length - 1) 43 #[.pointer (some ⟨w.heap.size, 0, none⟩)] (refutesI l) w1 hv1 (Nat.sub_le _ _) (by omega) Try.call43
      (fun W y xs hW hy hs _ => trim1_c V w.heap.size W hV (hu1.ext hW) hy hwl.out (fun c hc => hwp.out c (hs c hc)) (hW.cell hb0) (hW.cell hb1))
    have hres : Hid (chosenI p (keptI (refutesI l) p (p.length - 1)) = trimI l p) := by
      show _ = _
      unfold keptI trimI
      rw [prune_chosen, chosenI_up]
    rw [hres.out] at hR
    have hsub : (trimI l p).length ≤ p.length := (prune_sub (ok := refutesI l) (p.length - 1) p).2
    have hmem : ∀ c ∈ trimI l p, c.length ≤ 4096 := fun c hc => by
      have hw := hwp.out c ((prune_sub (ok := refutesI l) (p.length - 1) p).1 c hc)
      exact wc_length hV hw
    have Hmem := Lib.hid hmem
    rw [hj.out]
    clear hb0 hb1 hmem hres hj
    go_wp2_with (first | (go_at_call 42; refine hR.mono ?_; rintro e w2 ⟨r, rfl, ⟨x, y, rfl, hox, _⟩, hx2⟩; have hlx := hox.len) | ((with_reducible refine w_len elR.und ?_ ?_ hlx ?_); (· rfl); (· rfl); simp only [Act.put, List.setIfInBounds_toArray, List.set_cons_succ, List.set_cons_zero]))
    go_loopw [31] (fun i wr => ∃ (k : Nat), k ≤ (trimI l p).length ∧ i = .int .i64 (k : Int) ∧ Own w1.heap.size 37 (Arr RI) (fun k => P' k ∨ w.heap.size ≤ k) wr x (trimI l p) ∧ Ext w1 wr) (fun i _ => (trimI l p).length - (intOf i).toNat)
    case atStart => exact ⟨0, Nat.zero_le _, rfl, (hox.unfix (Nat.le_refl _)).mono (Nat.le_refl _) (fun _ h => .inl h.1), hx2⟩
    case round =>
      obtain ⟨k, hk, rfl, ho, hx3⟩ := hrel
      by_cases hlt : k < (trimI l p).length
      · have hoa := ho.arr
        have hm8 : ((trimI l p)[k]).length * 8 ≤ 140737488355328 := by have := Hmem.out _ (List.getElem_mem hlt); omega
        go_wp2_with (first | ((with_reducible refine w_ix elR ?_ ?_ ?_ ?_ ?_ hoa hlt ?_); (· rfl); (· exact fun _ => rfl); (· exact fun _ => rfl); (· rfl); (· rfl); intro _ c hcc h1c; simp only [Act.put, List.setIfInBounds_toArray, List.set_cons_succ, List.set_cons_zero]) | (go_at_call 44; refine (iclone_c _ hcc hm8).mono ?_; rintro e w4 ⟨c4, rfl, ho4, hx4⟩; have hoc := ho.ext hx4; have hyy := own_clone (Q := P') ho ho4 (hx.trans hx3).size; have h1c := ho4.one) | ((with_reducible refine w_setO elR ?_ ?_ ?_ ?_ hoc hlt h1c (trimI l p)[k] hyy ?_); (· exact fun _ => rfl); (· rfl); (· rfl); (· exact fun _ => rfl); intro _ w5 ho5 hg5; simp only [Act.put, List.setIfInBounds_toArray, List.set_cons_succ, List.set_cons_zero]))
        rw [list_set_self hlt] at ho5
        go_roundw
        case rel => exact ⟨k + 1, hlt, by go_num, ho5, Below.grown (hx3.trans hx4) hg5 (hx3.trans hx4).size (fun r hr => (hoc.lt r hr).1)⟩
        case measure => simp [intOf]; omega
      · obtain rfl : k = (trimI l p).length := by omega
        go_wp2
        go_ret2
        refine ⟨_, rfl, ⟨_, by rw [Hz.out]; rfl, ?_⟩, hx.trans hx3⟩
        try rw [if_neg (by simp [Hz.out])]
        exact Good.weak (R := Rows) ho.arr (fun k hk => hk.elim id (fun h => .inr (Nat.le_trans hx.size h)))
  · have Hz := Lib.hid hz
    go_enter Try.func15, Try.ntmps15
    go_wp2_with (first | (go_at_call 13; refine (pverify_c _ _ (hu.ext (Ext.of_alloc _ _)) (hv.ext (Ext.of_alloc _ _)) hr).mono ?_; rintro e w1 ⟨rfl, hx1⟩))
    go_ret2
    refine ⟨_, rfl, ⟨_, rfl, ?_⟩, (Ext.of_alloc w _).trans hx1⟩
    try rw [if_pos Hz.out]
    exact Arr.nil'

theorem rule_core (l p : List (List Int)) : keptI (fun x => refutesI x p) l l.length = coreI l p := rfl

set_option maxHeartbeats 1000000 in
/-- Core of the program -/
theorem pcore_c {P P' : Nat → Prop} {u v : Value} {l p : List (List Int)} (vars : Int) (w : World) (hu : Rows P w u l) (hv : Rows P' w v p) (hr : IRR l) :
    Calls Try.prog 18 #[.agg #[.int .i64 vars, u], v] w (RetP (fun w' r => ∃ x, r = .tuple #[x, .int .i64 (verifyI vars l p).2] ∧ Ints (fun k => w.heap.size ≤ k) w' x (if (verifyI vars l p).2 ≠ 0 then [] else coreI l p)) w) := by
  by_cases hz : (verifyI vars l p).2 = 0
  · have Hz := Lib.hid hz
    obtain ⟨hc, hp, hbad, hgap⟩ := verifyI_ok hz
    obtain ⟨h0, h1, hl, h2⟩ := checkI_zero hc
    obtain ⟨V, rfl⟩ : ∃ V : Nat, vars = (V : Int) := ⟨vars.toNat, by omega⟩
    have hV : V ≤ 4096 := by omega
    have hwl := Lib.hid ((clausesI_iff hV).1 h2)
    have hwp := Lib.hid (badI_wl hV hbad)
    have hl2 : l.length ≤ 1000000 := by omega
    obtain ⟨av, cv, rfl⟩ := hv.len
    clear hc hbad hgap h0 h1 h2 hz
    go_enter Try.func18, Try.ntmps18
    go_wp2_with (first | (go_at_call 13; refine (pverify_c _ _ (hu.ext (((Ext.refl _).alloc _).alloc _)) (hv.ext (((Ext.refl _).alloc _).alloc _)) hr).mono ?_; rintro e w1 ⟨rfl, hx1⟩; rw [Hz.out]; have hb0 : w1.cell? ⟨w.heap.size, 0, none⟩ = some (.int .i64 (V : Int)) := hx1.cell (((Ext.refl _).alloc _).cell (by simp)); have hb1 : w1.cell? ⟨w.heap.size, 1, none⟩ = some u := hx1.cell (((Ext.refl _).alloc _).cell (by simp)); have hb2 : w1.cell? ⟨w.heap.size + 1, 0, none⟩ = some (.slice av p.length cv) := hx1.cell (by simp); have hx := ((((Ext.refl w).alloc _).alloc _).trans hx1); have hu1 := hu.ext hx; have hv1 := hv.ext hx) | ((with_reducible refine w_len elR.und ?_ ?_ hu1.len ?_); (· rfl); (· rfl); simp only [Act.put, List.setIfInBounds_toArray, List.set_cons_succ, List.set_cons_zero]))
    have hR := reduced_c l.length 46 #[.pointer (some ⟨w.heap.size, 0, none⟩), .pointer (some ⟨w.heap.size + 1, 0, none⟩)] (fun x => refutesI x p) w1 hu1 (Nat.le_refl _) hl2 Try.call46
      (fun W y xs hW hy hs _ => core1_c V w.heap.size (w.heap.size + 1) W hV hy (hv1.ext hW) (fun c hc => hwl.out c (hs c hc)) hwp.out (hW.cell hb0) (hW.cell hb2))
    rw [rule_core] at hR
    clear hb0 hb1 hb2
    go_wp2_with (go_at_call 42; refine hR.mono ?_; rintro e w2 ⟨r, rfl, ⟨x, y, rfl, _, hoy⟩, hx2⟩)
    go_ret2
    refine ⟨_, rfl, ⟨_, by rw [Hz.out]; rfl, ?_⟩, hx.trans hx2⟩
    try rw [if_neg (by simp [Hz.out])]
    exact Good.weak (R := Ints) hoy.arr (fun k hk => hk.elim (fun h => h.elim) (fun h => Nat.le_trans hx.size h))
  · have Hz := Lib.hid hz
    obtain ⟨av, cv, rfl⟩ := hv.len
    go_enter Try.func18, Try.ntmps18
    go_wp2_with (first | (go_at_call 13; refine (pverify_c _ _ (hu.ext (((Ext.refl _).alloc _).alloc _)) (hv.ext (((Ext.refl _).alloc _).alloc _)) hr).mono ?_; rintro e w1 ⟨rfl, hx1⟩) | fail)
    go_ret2
    refine ⟨_, rfl, ⟨_, rfl, ?_⟩, (((Ext.refl _).alloc _).alloc _).trans hx1⟩
    try rw [if_pos Hz.out]
    exact Arr.nil'

end Go.Proofs.Ytjifihfkoflbiaa
