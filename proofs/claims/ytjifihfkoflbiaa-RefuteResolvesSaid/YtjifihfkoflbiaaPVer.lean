/-
  The program's refutes, Verify, Empty: they hand back what the reference's do.
-/
import Derived.Test.YtjifihfkoflbiaaImp2
import Derived.Test.YtjifihfkoflbiaaRef42b
namespace Go.Proofs.Ytjifihfkoflbiaa
open Go.RowKit

/-- what refutes hands back -/
def refI (l p : List (List Int)) : Int × Int := if 0 ≤ gapI l p then (gapI l p, 18) else (0, 0)

theorem WL.append {V : Nat} {l p : List (List Int)} (h : WL V l) (k : WL V p) : WL V (l ++ p) := fun c hc => (List.mem_append.1 hc).elim (h c) (k c)
theorem WL.take {V : Nat} {p : List (List Int)} (k : WL V p) (n : Nat) : WL V (p.take n) := fun c hc => k c (List.mem_of_mem_take hc)

set_option maxHeartbeats 2000000 in
theorem prefutes_c {P P' : Nat → Prop} {u v : Value} {l p : List (List Int)} (V : Nat) (w : World) (hV : V ≤ 4096) (hu : Rows P w u l) (hv : Rows P' w v p) (hl : WL V l) (hp : WL V p) :
    Calls Try.prog 40 #[.int .i64 (V : Int), u, v] w fun e w' => e = .returned (.tuple #[.int .i64 (refI l p).1, .int .i64 (refI l p).2]) ∧ Ext w w' := by
  have hle := hv.le
  have hu0 := hu.old
  have hv0 := hv.old
  clear hu hv
  have HL := Lib.hid hl
  have HP := Lib.hid hp
  clear hl hp
  go_enter Try.func40, Try.ntmps40
  go_wp2_with ((with_reducible refine w_len elR.und ?_ ?_ hv0.len ?_); (· rfl); (· rfl); simp only [Act.put, List.setIfInBounds_toArray, List.set_cons_succ, List.set_cons_zero])
  go_loopw [13] (fun i wr => ∃ (k : Nat), k ≤ p.length ∧ i = .int .i64 k ∧ Hid (gapF k (l ++ p.take k) (p.drop k) = gapF 0 l p) ∧ Ext w wr) (fun i _ => p.length - (intOf i).toNat)
  case atStart => exact ⟨0, Nat.zero_le _, rfl, by show _ = _; simp, Ext.refl _⟩
  case round =>
    obtain ⟨k, hk, rfl, hn, hx⟩ := hrel
    have hv1 := hv0.ext hx
    have hu1 := hu0.ext hx
    by_cases hlt : k < p.length
    · have hst := Lib.hid (gapF_step (l := l ++ p.take k) (i := k) hlt)
      have heq := Lib.hid (pimpI_eq hV (WL.append HL.out (WL.take HP.out k)) (HP.out _ (List.getElem_mem hlt)))
      go_wp2_with (first | ((with_reducible refine w_ix elR ?_ ?_ ?_ ?_ ?_ hv1 hlt ?_); (· rfl); (· exact fun _ => rfl); (· exact fun _ => rfl); (· rfl); (· rfl); intro _ x hxx h1x; simp only [Act.put, List.setIfInBounds_toArray, List.set_cons_succ, List.set_cons_zero]) | ((with_reducible refine w_slice elR ?_ hv1 0 k ?_ ?_ (Nat.zero_le _) (Nat.le_of_lt hlt) ?_); (· rfl); (· exact (.inl ⟨rfl, rfl⟩)); (· exact (.inr ⟨.i64, rfl⟩)); rintro v1 hs1; simp only [Act.put, List.setIfInBounds_toArray, List.set_cons_succ, List.set_cons_zero]))
      rw [Nat.sub_zero, List.drop_zero] at hs1
      have hB := both_c wr hu1 hs1
      have e3 : Ext wr ((wr.alloc (.cells #[u] 22)).alloc (.cells #[v1] 22)) := ((Ext.refl _).alloc _).alloc _
      obtain ⟨w3, hw3⟩ : ∃ w3, (wr.alloc (.cells #[u] 22)).alloc (.cells #[v1] 22) = w3 := ⟨_, rfl⟩
      have hBu : w3.cell? ⟨wr.heap.size, 0, none⟩ = some u := by rw [← hw3]; exact ((Boxed.new wr 22 u).alloc _).cell
      have hBv : w3.cell? ⟨wr.heap.size + 1, 0, none⟩ = some v1 := by rw [← hw3]; have h := (Boxed.new (wr.alloc (.cells #[u] 22)) 22 v1).cell; rw [World.size_alloc] at h; exact h
      rw [hw3] at e3 hB
      have hI := implied_c hV hBu hBv (hu1.ext e3) (hs1.ext e3) (hxx.ext e3) (WL.inR HL.out) (WL.inR (WL.take HP.out k)) (fun y hy => by have := ((HP.out _ (List.getElem_mem hlt)).rng y hy).2; omega)
      rw [show conflictI (l ++ p.take k) (startI (V + 1) p[k]) = pimpI V (l ++ p.take k) p[k] from rfl, heq.out] at hI
      clear hw3 hBu hBv
      cases hz : followsI (l ++ p.take k) p[k]
      · rw [hz] at hI
        go_wp2_with (first | (go_at_call 52; refine hB.mono ?_; rintro e w4 ⟨rfl, rfl⟩) | (go_at_call 51; refine hI.mono ?_; rintro e w5 ⟨rfl, hx5⟩))
        go_ret2
        have e : gapF 0 l p = some k := by rw [← hn.out, hst.out, if_neg (by simp [hz])]
        have e2 : refI l p = ((k : Int), 18) := by unfold refI gapI; rw [e]; simp
        exact ⟨ret_ii (by rw [e2]) (by rw [e2]), (hx.trans e3).trans hx5⟩
      · rw [hz] at hI
        go_wp2_with (first | (go_at_call 52; refine hB.mono ?_; rintro e w4 ⟨rfl, rfl⟩) | (go_at_call 51; refine hI.mono ?_; rintro e w5 ⟨rfl, hx5⟩))
        go_roundw
        case rel => exact ⟨k + 1, hlt, by go_num, by show _ = _; rw [← hn.out, hst.out, if_pos hz, List.append_assoc, List.take_succ_eq_append_getElem hlt], (hx.trans e3).trans hx5⟩
        case measure => simp [intOf]; omega
    · obtain rfl : k = p.length := by omega
      have e : gapF 0 l p = none := by rw [← hn.out, List.drop_length, gapF]
      have hgap : Hid (gapI l p = if lastBad p = true then (p.length : Int) else -1) := by show _ = _; unfold gapI; rw [e]
      clear e hn hlt hk
      cases hp : p.getLast? with
      | none =>
        have h0 : p = [] := List.getLast?_eq_none_iff.1 hp
        subst h0
        have hb0 : ((0 : Int) == 0) = true := rfl
        go_wp2_with (first | ((with_reducible refine w_len elR.und ?_ ?_ hv1.len ?_); (· rfl); (· rfl); simp only [Act.put, List.setIfInBounds_toArray, List.set_cons_succ, List.set_cons_zero]))
        go_ret2
        have e2 : refI l [] = (0, 18) := by unfold refI; rw [hgap.out]; rfl
        exact ⟨ret_ii (by rw [e2]; rfl) (by rw [e2]), hx⟩
      | some cl =>
        have hne : 0 < p.length := by
          cases p with
          | nil => simp at hp
          | cons _ _ => simp
        have hk1 : p.length - 1 < p.length := Nat.sub_lt hne Nat.one_pos
        have hlb : lastBad p = decide (0 < (p[p.length - 1]).length) := by
          rw [List.getLast?_eq_getElem?] at hp
          unfold lastBad
          rw [List.getLast?_eq_getElem?, hp, ← (List.getElem?_eq_some_iff.1 hp).2]
        have Hlb := Lib.hid hlb
        have hb0 : ((p.length : Int) == 0) = false := beq_eq_false_iff_ne.2 (by omega)
        have hj : (p.length : Int) - 1 = ((p.length - 1 : Nat) : Int) := by omega
        clear hp hlb
        go_wp2_with (first | ((with_reducible refine w_len elR.und ?_ ?_ hv1.len ?_); (· rfl); (· rfl); simp only [Act.put, List.setIfInBounds_toArray, List.set_cons_succ, List.set_cons_zero]) | ((with_reducible refine w_ixJ elR ?_ ?_ ?_ (((p.length - 1 : Nat)) : Int) rfl ?_ ?_ hv1 hk1 ?_); (· rfl); (· exact fun _ => rfl); (· exact fun _ => rfl); (· rfl); (· rfl); intro _ y hyy h1y; simp only [Act.put, List.setIfInBounds_toArray, List.set_cons_succ, List.set_cons_zero]) | ((with_reducible refine w_len elI.und ?_ ?_ (Arr.len hyy) ?_); (· rfl); (· rfl); simp only [Act.put, List.setIfInBounds_toArray, List.set_cons_succ, List.set_cons_zero]))
        · go_ret2
          have e2 : refI l p = ((p.length : Int), 18) := by
                                                                  have e1 : gapI l p = (p.length : Int) := by rw [hgap.out, Hlb.out, if_pos (by rw [decide_eq_true_eq]; omega)]
                                                                  unfold refI; rw [e1, if_pos (by omega)]
          exact ⟨ret_ii (by rw [e2]) (by rw [e2]), hx⟩
        · go_ret2
          have e2 : refI l p = (0, 0) := by 
            have e1 : gapI l p = -1 := by rw [hgap.out, Hlb.out, if_neg (by rw [decide_eq_true_eq]; omega)]
            unfold refI; rw [e1]; rfl
          exact ⟨ret_ii (by rw [e2]) (by rw [e2]), hx⟩

theorem badI_wl {V : Nat} (hV : V ≤ 4096) : ∀ {p : List (List Int)} {i : Nat}, badI (V : Int) i p = none → WL V p
  | [], _, _ => fun c hc => by cases hc
  | d :: p, i, h => by
    simp only [badI] at h
    split at h
    · cases h
    · rename_i hn
      intro c hc
      rcases List.mem_cons.1 hc with rfl | hc
      · exact (clauseI_iff hV).1 (Classical.not_not.1 hn)
      · exact badI_wl hV h c hc

set_option maxHeartbeats 2000000 in
/-- Verify of the program: it hands back what the reference's does -/
theorem pverify_c {P P' : Nat → Prop} {u v : Value} {l p : List (List Int)} (vars : Int) (w : World) (hu : Rows P w u l) (hv : Rows P' w v p) (hr : IRR l) :
    Calls Try.prog 13 #[.agg #[.int .i64 vars, u], v] w fun e w' => e = .returned (.tuple #[.int .i64 (verifyI vars l p).1, .int .i64 (verifyI vars l p).2]) ∧ Ext w w' := by
  have hle := hv.le
  by_cases hc : checkI vars l = 0
  · have hvars := checkI_zero hc
    obtain ⟨V, rfl⟩ : ∃ V : Nat, vars = (V : Int) := ⟨vars.toNat, by omega⟩
    have hV : V ≤ 4096 := by omega
    by_cases hp : p.length ≤ 32768
    · have hver : Hid (verifyI (V : Int) l p = match badI (V : Int) 0 p with | some r => (r.1, r.2) | none => refI l p) := by
        show _ = _; unfold verifyI refI; rw [if_neg (by simp [hc]), if_neg (by omega)]; rfl
      have hwl := Lib.hid ((clausesI_iff hV).1 hvars.2.2.2)
      go_enter Try.func13, Try.ntmps13
      go_wp2_with (first | (go_at_call 38; refine (pcheck_c _ _ (hu.ext (Ext.of_alloc _ _)) hr).mono ?_; rintro e w1 ⟨rfl, hx1⟩) | ((with_reducible refine w_len elR.und ?_ ?_ hv.len ?_); (· rfl); (· rfl); simp only [Act.put, List.setIfInBounds_toArray, List.set_cons_succ, List.set_cons_zero]))
      clear hc
      have hb0 : w1.cell? ⟨w.heap.size, 0, none⟩ = some (.int .i64 (V : Int)) := hx1.cell (by simp)
      have hb1 : w1.cell? ⟨w.heap.size, 1, none⟩ = some u := hx1.cell (by simp)
      have hx := (Ext.of_alloc w _).trans hx1
      have hv1 := hv.ext hx
      have hu1 := hu.ext hx
      clear hx1 hvars
      go_loop [20] (fun i => ∃ k : Nat, k ≤ p.length ∧ i = .int .i64 k ∧ Hid (badI (V : Int) k (p.drop k) = badI (V : Int) 0 p)) (fun i => p.length - (intOf i).toNat)
      case atStart => exact ⟨0, Nat.zero_le _, rfl, rfl⟩
      case round =>
        obtain ⟨k, hk, rfl, hn⟩ := hrel
        by_cases hlt : k < p.length
        · have hst := Lib.hid (badI_step (vars := (V : Int)) (i := k) hlt)
          by_cases hz : clauseI (V : Int) none p[k] = 0
          · have Hz := Lib.hid hz
            go_wp2_with (first | ((with_reducible refine w_ix elR ?_ ?_ ?_ ?_ ?_ hv1 hlt ?_); (· rfl); (· exact fun _ => rfl); (· exact fun _ => rfl); (· rfl); (· rfl); intro _ x hxx h1x; simp only [Act.put, List.setIfInBounds_toArray, List.set_cons_succ, List.set_cons_zero]) | (go_at_call 39; refine (single_c _ _ hxx (by omega) (by omega)).mono ?_; rintro e w2 ⟨rfl, rfl⟩))
            go_round
            case rel => exact ⟨k + 1, hlt, by go_num, by show _ = _; rw [← hn.out, hst.out, if_neg (by simp [Hz.out])]⟩
            case measure => simp [intOf]; omega
          · go_wp2_with (first | ((with_reducible refine w_ix elR ?_ ?_ ?_ ?_ ?_ hv1 hlt ?_); (· rfl); (· exact fun _ => rfl); (· exact fun _ => rfl); (· rfl); (· rfl); intro _ x hxx h1x; simp only [Act.put, List.setIfInBounds_toArray, List.set_cons_succ, List.set_cons_zero]) | (go_at_call 39; refine (single_c _ _ hxx (by omega) (by omega)).mono ?_; rintro e w2 ⟨rfl, rfl⟩))
            go_ret2
            have e : badI (V : Int) 0 p = some (k, clauseI (V : Int) none p[k]) := by rw [← hn.out, hst.out, if_pos hz]
            exact ⟨ret_ii (by rw [hver.out, e]) (by rw [hver.out, e]), hx⟩
        · obtain rfl : k = p.length := by omega
          have e : badI (V : Int) 0 p = none := by rw [← hn.out, List.drop_length, badI]
          have hwp := Lib.hid (badI_wl hV e)
          have e2 : Hid (verifyI (V : Int) l p = refI l p) := by show _ = _; rw [hver.out, e]
          clear e
          go_wp2_with (first | (go_at_call 40; refine (prefutes_c V _ hV hu1 hv1 hwl.out hwp.out).mono ?_; rintro e w2 ⟨rfl, hx2⟩))
          go_ret2
          exact ⟨ret_ii (by rw [e2.out]) (by rw [e2.out]), hx.trans hx2⟩
    · have hver : Hid (verifyI (V : Int) l p = (0, 5)) := by show _ = _; unfold verifyI; rw [if_neg (by simp [hc]), if_pos (by omega)]
      go_enter Try.func13, Try.ntmps13
      go_wp2_with (first | (go_at_call 38; refine (pcheck_c _ _ (hu.ext (Ext.of_alloc _ _)) hr).mono ?_; rintro e w1 ⟨rfl, hx1⟩) | ((with_reducible refine w_len elR.und ?_ ?_ hv.len ?_); (· rfl); (· rfl); simp only [Act.put, List.setIfInBounds_toArray, List.set_cons_succ, List.set_cons_zero]))
      go_ret2
      exact ⟨ret_ii (by rw [hver.out]) (by rw [hver.out]), (Ext.of_alloc w _).trans hx1⟩
  · have hver : Hid (verifyI vars l p = (0, checkI vars l)) := by show _ = _; unfold verifyI; rw [if_pos hc]
    go_enter Try.func13, Try.ntmps13
    go_wp2_with (first | (go_at_call 38; refine (pcheck_c _ _ (hu.ext (Ext.of_alloc _ _)) hr).mono ?_; rintro e w1 ⟨rfl, hx1⟩) | ((with_reducible refine w_len elR.und ?_ ?_ hv.len ?_); (· rfl); (· rfl); simp only [Act.put, List.setIfInBounds_toArray, List.set_cons_succ, List.set_cons_zero]))
    go_ret2
    exact ⟨ret_ii (by rw [hver.out]) (by rw [hver.out]), (Ext.of_alloc w _).trans hx1⟩

theorem pimpliedI_eq {vars : Int} {l : List (List Int)} {c : List Int} : pimpliedI vars l c = impliedI vars l c := by
  unfold pimpliedI impliedI
  by_cases hc : checkI vars l = 0
  · simp only [hc, ne_eq, not_true_eq_false, if_false]
    have hvars := checkI_zero hc
    obtain ⟨V, rfl⟩ : ∃ V : Nat, vars = (V : Int) := ⟨vars.toNat, by omega⟩
    have hV : V ≤ 4096 := by omega
    by_cases hz : clauseI (V : Int) none c = 0
    · simp only [hz, not_true_eq_false, if_false]
      rw [Int.toNat_natCast, pimpI_eq hV ((clausesI_iff hV).1 hvars.2.2.2) ((clauseI_iff hV).1 hz)]
    · simp only [hz, not_false_eq_true, if_true]
  · simp only [hc, ne_eq, not_false_eq_true, if_true]

theorem emptyI_eq (vars : Int) (l : List (List Int)) : impliedI vars l [] = emptyI vars l := by
  unfold emptyI impliedI
  by_cases hc : checkI vars l = 0
  · simp [hc, clauseI]
  · simp only [hc, ne_eq, not_false_eq_true, if_true]

/-- Empty of the program -/
theorem pempty_c {P : Nat → Prop} {u : Value} {l : List (List Int)} (vars : Int) (w : World) (hu : Rows P w u l) (hr : IRR l) :
    Calls Try.prog 31 #[.agg #[.int .i64 vars, u]] w fun e w' => e = .returned (.tuple #[.bool (emptyI vars l).1, .int .i64 (emptyI vars l).2]) ∧ Ext w w' := by
  rw [← emptyI_eq, ← pimpliedI_eq]
  go_enter Try.func31, Try.ntmps31
  go_wp2_with (first | (go_at_call 23; refine (pimplied_c (P' := noB) _ _ (hu.ext (Ext.of_alloc _ _)) (Arr.nil' (R := RI)) hr).mono ?_; rintro e w1 ⟨rfl, hx1⟩))
  go_ret2
  exact ⟨rfl, (Ext.of_alloc w _).trans hx1⟩

end Go.Proofs.Ytjifihfkoflbiaa
