/- Part 31: walks by contracts, and plain laws. -/
import Derived.Deep.RegionHeld3
import Derived.Test.YtpiidgcljlalmaaVa22
import Derived.Test.YtpiidgcljlalmaaVa28
import Derived.Test.YtpiidgcljlalmaaVa30
set_option linter.unusedVariables false
set_option linter.unusedSimpArgs false
set_option linter.unusedSectionVars false
namespace Go.Proofs.Ytpiidgcljlalmaa
open Go.RowKit

def pimpliedI (vars : Int) (l : List (List Int)) (c : List Int) : Bool × Int :=
  if checkI vars l ≠ 0 then (false, checkI vars l) else if clauseI vars none c ≠ 0 then (false, clauseI vars none c) else (pimpI vars.toNat l c, 0)

set_option maxHeartbeats 2000000 in
theorem pimplied_c {P P' : Nat → Prop} {u v : Value} {l : List (List Int)} {c : List Int} (vars : Int) (w : World) (hu : Rows P w u l) (hv : Ints P' w v c) (hr : IRR l) :
    Calls Try.prog 49 #[.agg #[.int .i64 vars, u], v] w fun e w' => e = .returned (.tuple #[.bool (pimpliedI vars l c).1, .int .i64 (pimpliedI vars l c).2]) ∧ Ext w w' := by
  by_cases hc : checkI vars l = 0
  · obtain ⟨hv0, hv1, hl, hcl⟩ := checkI_zero hc
    obtain ⟨V, rfl⟩ : ∃ V : Nat, vars = (V : Int) := ⟨vars.toNat, by omega⟩
    have hV : V ≤ 4096 := by omega
    have hin := WfL.inR ((clausesI_iff hV).1 hcl)
    by_cases hz : clauseI (V : Int) none c = 0
    · have hver : Hid (pimpliedI (V : Int) l c = (pimpI V l c, 0)) := by show _ = _; unfold pimpliedI; rw [if_neg (by simp [hc]), if_neg (by simp [hz])]; rfl
      have hcr : ∀ x ∈ c, x.natAbs < V + 1 := fun x hx => by have := (((clauseI_iff hV).1 hz).rng x hx).2; omega
      have HC := Lib.hid hcr
      have HI := Lib.hid hin
      clear hcr hin hcl
      go_enter Try.func49, Try.ntmps49
      go_wp2_with (first | (go_at_call 38; refine (pcheck_c _ _ (hu.ext (Ext.of_alloc _ _)) hr).mono ?_; rintro e w1 ⟨rfl, hx1⟩; have hb0 : w1.cell? ⟨w.heap.size, 0, none⟩ = some (.int .i64 (V : Int)) := hx1.cell (by simp); have hb1 : w1.cell? ⟨w.heap.size, 1, none⟩ = some u := hx1.cell (by simp); have hx := (Ext.of_alloc w _).trans hx1; have hu1 := hu.ext hx; have hv1 := hv.ext hx) | (go_at_call 39; refine (single_c _ _ hv1 (by omega) (by omega)).mono ?_; rintro e w2 ⟨rfl, rfl⟩))
      have e2 : Ext w2 w2.drew := (Ext.refl _).drew
      have hB := both_c (P' := noB) (v := .slice none 0 0) (p := []) w2.drew (hu1.ext e2) Arr.nil'
      have e3 : Ext w2.drew ((w2.drew.alloc (.cells #[u] 22)).alloc (.cells #[.slice none 0 0] 22)) := ((Ext.refl _).alloc _).alloc _
      obtain ⟨w3, hw3⟩ : ∃ w3, (w2.drew.alloc (.cells #[u] 22)).alloc (.cells #[.slice none 0 0] 22) = w3 := ⟨_, rfl⟩
      have hBu : w3.cell? ⟨w2.heap.size, 0, none⟩ = some u := by rw [← hw3]; exact ((Boxed.new w2.drew 22 u).alloc _).cell
      have hBv : w3.cell? ⟨w2.heap.size + 1, 0, none⟩ = some (.slice none 0 0) := by rw [← hw3]; have h := (Boxed.new (w2.drew.alloc (.cells #[u] 22)) 22 (.slice none 0 0)).cell; rw [World.size_alloc] at h; exact h
      rw [hw3] at e3 hB
      have e4 := e2.trans e3
      have hI := implied_c (P2 := noB) (l2 := []) hV hBu hBv (hu1.ext e4) Arr.nil' (hv1.ext e4) HI.out (fun c hc => by cases hc) HC.out
      rw [List.append_nil] at hI
      have k0 := e4.cell hb0
      have k1 := e4.cell hb1
      go_region_held3 (fun w' => w'.cell? ⟨w.heap.size, 0, none⟩ = some (.int .i64 (V : Int)) ∧ w'.cell? ⟨w.heap.size, 1, none⟩ = some u) (first | go_keep | exact ⟨k0, k1⟩ | exact ⟨hx5.cell k0, hx5.cell k1⟩)
        (first | (go_at_call 69; refine hB.mono ?_; rintro e w4 ⟨rfl, rfl⟩) | (go_at_call 68; refine hI.mono ?_; rintro e w5 ⟨rfl, hx5⟩))
      all_goals go_wp2
      go_ret2
      exact ⟨ret_bi (by rw [hver.out]; rfl) (by rw [hver.out]), hx.trans (e4.trans hx5)⟩
    · have hver : Hid (pimpliedI (V : Int) l c = (false, clauseI (V : Int) none c)) := by show _ = _; unfold pimpliedI; rw [if_neg (by simp [hc]), if_pos hz]
      clear hin hcl
      go_enter Try.func49, Try.ntmps49
      go_wp2_with (first | (go_at_call 38; refine (pcheck_c _ _ (hu.ext (Ext.of_alloc _ _)) hr).mono ?_; rintro e w1 ⟨rfl, hx1⟩; have hb0 : w1.cell? ⟨w.heap.size, 0, none⟩ = some (.int .i64 (V : Int)) := hx1.cell (by simp); have hx := (Ext.of_alloc w _).trans hx1; have hv1 := hv.ext hx) | (go_at_call 39; refine (single_c _ _ hv1 (by omega) (by omega)).mono ?_; rintro e w2 ⟨rfl, rfl⟩))
      go_ret2
      exact ⟨ret_bi (by rw [hver.out]) (by rw [hver.out]), hx⟩
  · have hver : Hid (pimpliedI vars l c = (false, checkI vars l)) := by show _ = _; unfold pimpliedI; rw [if_pos hc]
    go_enter Try.func49, Try.ntmps49
    go_wp2_with (first | (go_at_call 38; refine (pcheck_c _ _ (hu.ext (Ext.of_alloc _ _)) hr).mono ?_; rintro e w1 ⟨rfl, hx1⟩))
    go_ret2
    exact ⟨ret_bi (by rw [hver.out]) (by rw [hver.out]), (Ext.of_alloc w _).trans hx1⟩

end Go.Proofs.Ytpiidgcljlalmaa
namespace Go.Proofs.Ytpiidgcljlalmaa
open Go.RowKit

def refI (l p : List (List Int)) : Int × Int := if 0 ≤ gapI l p then (gapI l p, 18) else (0, 0)

theorem WfL.append {V : Nat} {l p : List (List Int)} (h : WfL V l) (k : WfL V p) : WfL V (l ++ p) := fun c hc => (List.mem_append.1 hc).elim (h c) (k c)
theorem WfL.take {V : Nat} {p : List (List Int)} (k : WfL V p) (n : Nat) : WfL V (p.take n) := fun c hc => k c (List.mem_of_mem_take hc)

set_option maxHeartbeats 2000000 in
theorem prefutes_c {P P' : Nat → Prop} {u v : Value} {l p : List (List Int)} (V : Nat) (w : World) (hV : V ≤ 4096) (hu : Rows P w u l) (hv : Rows P' w v p) (hl : WfL V l) (hp : WfL V p) :
    Calls Try.prog 40 #[.int .i64 (V : Int), u, v] w fun e w' => e = .returned (.tuple #[.int .i64 (refI l p).1, .int .i64 (refI l p).2]) ∧ Ext w w' := by
  have hle := hv.le
  have hu0 := hu.old
  have hv0 := hv.old
  clear hu hv
  have HL := Lib.hid hl
  have HP := Lib.hid hp
  clear hl hp
  go_enter Try.func40, Try.ntmps40
  go_wp2_with ((with_reducible refine w_len elR.und ?_ ?_ hv0.len ?_); (· rfl); (· rfl); simp only [Act.put, List.setIfInBounds_toArray, List.set_cons_succ, List.set_cons_zero])
  go_loopw [13] (fun i wr => ∃ (k : Nat), k ≤ p.length ∧ i = .int .i64 k ∧ Hid (gapF k (l ++ p.take k) (p.drop k) = gapF 0 l p) ∧ Ext w wr) (fun i _ => p.length - (intOf i).toNat)
  case atStart => exact ⟨0, Nat.zero_le _, rfl, by show _ = _; simp, Ext.refl _⟩
  case round =>
    obtain ⟨k, hk, rfl, hn, hx⟩ := hrel
    have hv1 := hv0.ext hx
    have hu1 := hu0.ext hx
    by_cases hlt : k < p.length
    · have hst := Lib.hid (gapF_step (l := l ++ p.take k) (i := k) hlt)
      have heq := Lib.hid (pimpI_eq hV (WfL.append HL.out (WfL.take HP.out k)) (HP.out _ (List.getElem_mem hlt)))
      go_wp2_with (first | ((with_reducible refine w_ix elR ?_ ?_ ?_ ?_ ?_ hv1 hlt ?_); (· rfl); (· exact fun _ => rfl); (· exact fun _ => rfl); (· rfl); (· rfl); intro _ x hxx h1x; simp only [Act.put, List.setIfInBounds_toArray, List.set_cons_succ, List.set_cons_zero]) | ((with_reducible refine w_slice elR ?_ hv1 0 k ?_ ?_ (Nat.zero_le _) (Nat.le_of_lt hlt) ?_); (· rfl); (· exact (.inl ⟨rfl, rfl⟩)); (· exact (.inr ⟨.i64, rfl⟩)); rintro v1 hs1; simp only [Act.put, List.setIfInBounds_toArray, List.set_cons_succ, List.set_cons_zero]))
      rw [Nat.sub_zero, List.drop_zero] at hs1
      have hB := both_c wr hu1 hs1
      have e3 : Ext wr ((wr.alloc (.cells #[u] 22)).alloc (.cells #[v1] 22)) := ((Ext.refl _).alloc _).alloc _
      obtain ⟨w3, hw3⟩ : ∃ w3, (wr.alloc (.cells #[u] 22)).alloc (.cells #[v1] 22) = w3 := ⟨_, rfl⟩
      have hBu : w3.cell? ⟨wr.heap.size, 0, none⟩ = some u := by rw [← hw3]; exact ((Boxed.new wr 22 u).alloc _).cell
      have hBv : w3.cell? ⟨wr.heap.size + 1, 0, none⟩ = some v1 := by rw [← hw3]; have h := (Boxed.new (wr.alloc (.cells #[u] 22)) 22 v1).cell; rw [World.size_alloc] at h; exact h
      rw [hw3] at e3 hB
      have hI := implied_c hV hBu hBv (hu1.ext e3) (hs1.ext e3) (hxx.ext e3) (WfL.inR HL.out) (WfL.inR (WfL.take HP.out k)) (fun y hy => by have := ((HP.out _ (List.getElem_mem hlt)).rng y hy).2; omega)
      rw [show conflictI (l ++ p.take k) (startI (V + 1) p[k]) = pimpI V (l ++ p.take k) p[k] from rfl, heq.out] at hI
      clear hw3 hBu hBv
      cases hz : followsI (l ++ p.take k) p[k]
      · rw [hz] at hI
        go_wp2_with (first | (go_at_call 69; refine hB.mono ?_; rintro e w4 ⟨rfl, rfl⟩) | (go_at_call 68; refine hI.mono ?_; rintro e w5 ⟨rfl, hx5⟩))
        go_ret2
        have e : gapF 0 l p = some k := by rw [← hn.out, hst.out, if_neg (by simp [hz])]
        have e2 : refI l p = ((k : Int), 18) := by unfold refI gapI; rw [e]; simp
        exact ⟨ret_ii (by rw [e2]) (by rw [e2]), (hx.trans e3).trans hx5⟩
      · rw [hz] at hI
        go_wp2_with (first | (go_at_call 69; refine hB.mono ?_; rintro e w4 ⟨rfl, rfl⟩) | (go_at_call 68; refine hI.mono ?_; rintro e w5 ⟨rfl, hx5⟩))
        go_roundw
        case rel => exact ⟨k + 1, hlt, by go_num, by show _ = _; rw [← hn.out, hst.out, if_pos hz, List.append_assoc, List.take_succ_eq_append_getElem hlt], (hx.trans e3).trans hx5⟩
        case measure => simp [intOf]; omega
    · obtain rfl : k = p.length := by omega
      have e : gapF 0 l p = none := by rw [← hn.out, List.drop_length, gapF]
      have hgap : Hid (gapI l p = if lastBad p = true then (p.length : Int) else -1) := by show _ = _; unfold gapI; rw [e]
      clear e hn hlt hk
      cases hp : p.getLast? with
      | none =>
        have h0 : p = [] := List.getLast?_eq_none_iff.1 hp
        subst h0
        have hb0 : ((0 : Int) == 0) = true := rfl
        go_wp2_with (first | ((with_reducible refine w_len elR.und ?_ ?_ hv1.len ?_); (· rfl); (· rfl); simp only [Act.put, List.setIfInBounds_toArray, List.set_cons_succ, List.set_cons_zero]))
        go_ret2
        have e2 : refI l [] = (0, 18) := by unfold refI; rw [hgap.out]; rfl
        exact ⟨ret_ii (by rw [e2]; rfl) (by rw [e2]), hx⟩
      | some cl =>
        have hne : 0 < p.length := by
          cases p with
          | nil => simp at hp
          | cons _ _ => simp
        have hk1 : p.length - 1 < p.length := Nat.sub_lt hne Nat.one_pos
        have hlb : lastBad p = decide (0 < (p[p.length - 1]).length) := by
          rw [List.getLast?_eq_getElem?] at hp
          unfold lastBad
          rw [List.getLast?_eq_getElem?, hp, ← (List.getElem?_eq_some_iff.1 hp).2]
        have Hlb := Lib.hid hlb
        have hb0 : ((p.length : Int) == 0) = false := beq_eq_false_iff_ne.2 (by omega)
        have hj : (p.length : Int) - 1 = ((p.length - 1 : Nat) : Int) := by omega
        clear hp hlb
        go_wp2_with (first | ((with_reducible refine w_len elR.und ?_ ?_ hv1.len ?_); (· rfl); (· rfl); simp only [Act.put, List.setIfInBounds_toArray, List.set_cons_succ, List.set_cons_zero]) | ((with_reducible refine w_ixJ elR ?_ ?_ ?_ (((p.length - 1 : Nat)) : Int) rfl ?_ ?_ hv1 hk1 ?_); (· rfl); (· exact fun _ => rfl); (· exact fun _ => rfl); (· rfl); (· rfl); intro _ y hyy h1y; simp only [Act.put, List.setIfInBounds_toArray, List.set_cons_succ, List.set_cons_zero]) | ((with_reducible refine w_len elI.und ?_ ?_ (Arr.len hyy) ?_); (· rfl); (· rfl); simp only [Act.put, List.setIfInBounds_toArray, List.set_cons_succ, List.set_cons_zero]))
        · go_ret2
          have e2 : refI l p = ((p.length : Int), 18) := by
                                                                  have e1 : gapI l p = (p.length : Int) := by rw [hgap.out, Hlb.out, if_pos (by rw [decide_eq_true_eq]; omega)]
                                                                  unfold refI; rw [e1, if_pos (by omega)]
          exact ⟨ret_ii (by rw [e2]) (by rw [e2]), hx⟩
        · go_ret2
          have e2 : refI l p = (0, 0) := by 
            have e1 : gapI l p = -1 := by rw [hgap.out, Hlb.out, if_neg (by rw [decide_eq_true_eq]; omega)]
            unfold refI; rw [e1]; rfl
          exact ⟨ret_ii (by rw [e2]) (by rw [e2]), hx⟩

theorem badI_wl {V : Nat} (hV : V ≤ 4096) : ∀ {p : List (List Int)} {i : Nat}, badI (V : Int) i p = none → WfL V p
  | [], _, _ => fun c hc => by cases hc
  | d :: p, i, h => by
    simp only [badI] at h
    split at h
    · cases h
    · rename_i hn
      intro c hc
      rcases List.mem_cons.1 hc with rfl | hc
      · exact (clauseI_iff hV).1 (Classical.not_not.1 hn)
      · exact badI_wl hV h c hc

set_option maxHeartbeats 2000000 in
theorem pverify_c {P P' : Nat → Prop} {u v : Value} {l p : List (List Int)} (vars : Int) (w : World) (hu : Rows P w u l) (hv : Rows P' w v p) (hr : IRR l) :
    Calls Try.prog 13 #[.agg #[.int .i64 vars, u], v] w fun e w' => e = .returned (.tuple #[.int .i64 (verifyI vars l p).1, .int .i64 (verifyI vars l p).2]) ∧ Ext w w' := by
  have hle := hv.le
  by_cases hc : checkI vars l = 0
  · have hvars := checkI_zero hc
    obtain ⟨V, rfl⟩ : ∃ V : Nat, vars = (V : Int) := ⟨vars.toNat, by omega⟩
    have hV : V ≤ 4096 := by omega
    by_cases hp : p.length ≤ 32768
    · have hver : Hid (verifyI (V : Int) l p = match badI (V : Int) 0 p with | some r => (r.1, r.2) | none => refI l p) := by
        show _ = _; unfold verifyI refI; rw [if_neg (by simp [hc]), if_neg (by omega)]; rfl
      have hwl := Lib.hid ((clausesI_iff hV).1 hvars.2.2.2)
      go_enter Try.func13, Try.ntmps13
      go_wp2_with (first | (go_at_call 38; refine (pcheck_c _ _ (hu.ext (Ext.of_alloc _ _)) hr).mono ?_; rintro e w1 ⟨rfl, hx1⟩) | ((with_reducible refine w_len elR.und ?_ ?_ hv.len ?_); (· rfl); (· rfl); simp only [Act.put, List.setIfInBounds_toArray, List.set_cons_succ, List.set_cons_zero]))
      clear hc
      have hb0 : w1.cell? ⟨w.heap.size, 0, none⟩ = some (.int .i64 (V : Int)) := hx1.cell (by simp)
      have hb1 : w1.cell? ⟨w.heap.size, 1, none⟩ = some u := hx1.cell (by simp)
      have hx := (Ext.of_alloc w _).trans hx1
      have hv1 := hv.ext hx
      have hu1 := hu.ext hx
      clear hx1 hvars
      go_loop [20] (fun i => ∃ k : Nat, k ≤ p.length ∧ i = .int .i64 k ∧ Hid (badI (V : Int) k (p.drop k) = badI (V : Int) 0 p)) (fun i => p.length - (intOf i).toNat)
      case atStart => exact ⟨0, Nat.zero_le _, rfl, rfl⟩
      case round =>
        obtain ⟨k, hk, rfl, hn⟩ := hrel
        by_cases hlt : k < p.length
        · have hst := Lib.hid (badI_step (vars := (V : Int)) (i := k) hlt)
          by_cases hz : clauseI (V : Int) none p[k] = 0
          · have Hz := Lib.hid hz
            go_wp2_with (first | ((with_reducible refine w_ix elR ?_ ?_ ?_ ?_ ?_ hv1 hlt ?_); (· rfl); (· exact fun _ => rfl); (· exact fun _ => rfl); (· rfl); (· rfl); intro _ x hxx h1x; simp only [Act.put, List.setIfInBounds_toArray, List.set_cons_succ, List.set_cons_zero]) | (go_at_call 39; refine (single_c _ _ hxx (by omega) (by omega)).mono ?_; rintro e w2 ⟨rfl, rfl⟩))
            go_round
            case rel => exact ⟨k + 1, hlt, by go_num, by show _ = _; rw [← hn.out, hst.out, if_neg (by simp [Hz.out])]⟩
            case measure => simp [intOf]; omega
          · go_wp2_with (first | ((with_reducible refine w_ix elR ?_ ?_ ?_ ?_ ?_ hv1 hlt ?_); (· rfl); (· exact fun _ => rfl); (· exact fun _ => rfl); (· rfl); (· rfl); intro _ x hxx h1x; simp only [Act.put, List.setIfInBounds_toArray, List.set_cons_succ, List.set_cons_zero]) | (go_at_call 39; refine (single_c _ _ hxx (by omega) (by omega)).mono ?_; rintro e w2 ⟨rfl, rfl⟩))
            go_ret2
            have e : badI (V : Int) 0 p = some (k, clauseI (V : Int) none p[k]) := by rw [← hn.out, hst.out, if_pos hz]
            exact ⟨ret_ii (by rw [hver.out, e]) (by rw [hver.out, e]), hx⟩
        · obtain rfl : k = p.length := by omega
          have e : badI (V : Int) 0 p = none := by rw [← hn.out, List.drop_length, badI]
          have hwp := Lib.hid (badI_wl hV e)
          have e2 : Hid (verifyI (V : Int) l p = refI l p) := by show _ = _; rw [hver.out, e]
          clear e
          go_wp2_with (first | (go_at_call 40; refine (prefutes_c V _ hV hu1 hv1 hwl.out hwp.out).mono ?_; rintro e w2 ⟨rfl, hx2⟩))
          go_ret2
          exact ⟨ret_ii (by rw [e2.out]) (by rw [e2.out]), hx.trans hx2⟩
    · have hver : Hid (verifyI (V : Int) l p = (0, 5)) := by show _ = _; unfold verifyI; rw [if_neg (by simp [hc]), if_pos (by omega)]
      go_enter Try.func13, Try.ntmps13
      go_wp2_with (first | (go_at_call 38; refine (pcheck_c _ _ (hu.ext (Ext.of_alloc _ _)) hr).mono ?_; rintro e w1 ⟨rfl, hx1⟩) | ((with_reducible refine w_len elR.und ?_ ?_ hv.len ?_); (· rfl); (· rfl); simp only [Act.put, List.setIfInBounds_toArray, List.set_cons_succ, List.set_cons_zero]))
      go_ret2
      exact ⟨ret_ii (by rw [hver.out]) (by rw [hver.out]), (Ext.of_alloc w _).trans hx1⟩
  · have hver : Hid (verifyI vars l p = (0, checkI vars l)) := by show _ = _; unfold verifyI; rw [if_pos hc]
    go_enter Try.func13, Try.ntmps13
    go_wp2_with (first | (go_at_call 38; refine (pcheck_c _ _ (hu.ext (Ext.of_alloc _ _)) hr).mono ?_; rintro e w1 ⟨rfl, hx1⟩) | ((with_reducible refine w_len elR.und ?_ ?_ hv.len ?_); (· rfl); (· rfl); simp only [Act.put, List.setIfInBounds_toArray, List.set_cons_succ, List.set_cons_zero]))
    go_ret2
    exact ⟨ret_ii (by rw [hver.out]) (by rw [hver.out]), (Ext.of_alloc w _).trans hx1⟩

theorem pimpliedI_eq {vars : Int} {l : List (List Int)} {c : List Int} : pimpliedI vars l c = impliedI vars l c := by
  unfold pimpliedI impliedI
  by_cases hc : checkI vars l = 0
  · simp only [hc, ne_eq, not_true_eq_false, if_false]
    have hvars := checkI_zero hc
    obtain ⟨V, rfl⟩ : ∃ V : Nat, vars = (V : Int) := ⟨vars.toNat, by omega⟩
    have hV : V ≤ 4096 := by omega
    by_cases hz : clauseI (V : Int) none c = 0
    · simp only [hz, not_true_eq_false, if_false]
      rw [Int.toNat_natCast, pimpI_eq hV ((clausesI_iff hV).1 hvars.2.2.2) ((clauseI_iff hV).1 hz)]
    · simp only [hz, not_false_eq_true, if_true]
  · simp only [hc, ne_eq, not_false_eq_true, if_true]

theorem emptyI_eq (vars : Int) (l : List (List Int)) : impliedI vars l [] = emptyI vars l := by
  unfold emptyI impliedI
  by_cases hc : checkI vars l = 0
  · simp [hc, clauseI]
  · simp only [hc, ne_eq, not_false_eq_true, if_true]

theorem pempty_c {P : Nat → Prop} {u : Value} {l : List (List Int)} (vars : Int) (w : World) (hu : Rows P w u l) (hr : IRR l) :
    Calls Try.prog 17 #[.agg #[.int .i64 vars, u]] w fun e w' => e = .returned (.tuple #[.bool (emptyI vars l).1, .int .i64 (emptyI vars l).2]) ∧ Ext w w' := by
  rw [← emptyI_eq, ← pimpliedI_eq]
  go_enter Try.func17, Try.ntmps17
  go_wp2_with (first | (go_at_call 49; refine (pimplied_c (P' := noB) _ _ (hu.ext (Ext.of_alloc _ _)) (Arr.nil' (R := RI)) hr).mono ?_; rintro e w1 ⟨rfl, hx1⟩))
  go_ret2
  exact ⟨rfl, (Ext.of_alloc w _).trans hx1⟩

end Go.Proofs.Ytpiidgcljlalmaa
namespace Go.Proofs.Ytpiidgcljlalmaa
open Go.RowKit

theorem grownBy_setRow (w : World) (g : Nat) (cs : Array Value) : w.grownBy (w.setRow g cs) (some g) :=
  ⟨rfl, rfl, rfl, by simp, fun k _ hne => setRow_other w g k cs (fun e => hne (by rw [e]))⟩

section
variable {P : Program} {ops : Array Oper} {rest : List Oper} {o : Oper} {a : Act} {Q : Exit → Act → World → Prop} {w : World} {t e : TypeId} {z : Value} {bytes : Nat}

theorem Own.set {α : Type} {R : Rel α} [Good R] {B : Nat} {PB : Nat → Prop} {v : Value} {xs : List α} {k : Nat} (hv : Own B e R PB w v xs) (hk : k < xs.length) {u : Value} (hu1 : u.oneCell' = true) (y : α) (hu : R (fun b => PB b ∧ v.ownBlock ≠ some b) w u y) :
    ∃ g cap, v = .slice (some ⟨g, 0, none⟩) xs.length cap ∧ (store ((⟨g, k, none⟩ : Addr).add 0) u).run P w = .ok () (w.setCell ⟨g, k, none⟩ u) ∧ Own B e R PB (w.setCell ⟨g, k, none⟩ u) v (xs.set k y) ∧ w.grownBy (w.setCell ⟨g, k, none⟩ u) (some g) ∧ v.ownBlock = some g := by
  obtain ⟨us, hl, ⟨hul, ho⟩, he⟩ := hv
  rcases ho with ⟨rfl, h0⟩ | ⟨g, cap, cur, rfl, hB, hg, hn, hm, hs, ht⟩
  · omega
  · rw [Nat.mul_one] at hs ht
    have hkc : k < cur.size := by omega
    have hset := setCell_eq_setRow w g k cur e (0, 0) u hg
    have hc : w.cell? ⟨g, k, none⟩ = some cur[k] := by simp [World.cell?, hg, hkc]
    have hf : w.frozen? ⟨g, k, none⟩ = false := by simp [World.frozen?, hg]
    have hgr := grownBy_setRow w g (cur.setIfInBounds k u)
    refine ⟨g, cap, rfl, ?_, ⟨us.set k u, by simp [hl], ⟨by simp [hul], .inr ⟨g, cap, cur.setIfInBounds k u, by simp, hB, ?_, by simpa using hn, hm, by simpa using hs, ?_⟩⟩, ?_⟩, by rw [hset]; exact hgr, rfl⟩
    · rw [show ((⟨g, k, none⟩ : Addr).add 0) = ⟨g, k, none⟩ from rfl, run_store P w _ u _ hu1, hc]
      simp [hf]
    · rw [hset]; exact setRow_heap w g cur _ e _ hg
    · simp only [List.length_set, Nat.mul_one, Array.toList_setIfInBounds]
      rw [← ht, List.take_set]
    · intro j h1 h2
      simp only [List.length_set] at h1 h2
      rw [List.getElem_set, List.getElem_set, hset]
      by_cases hkj : k = j
      · rw [if_pos hkj, if_pos hkj]
        exact ⟨hu1, Good.grown hu hgr (fun r hr hc => hc.2 (by cases hr; rfl))⟩
      · rw [if_neg hkj, if_neg hkj]
        exact ⟨(he j h1 h2).1, Good.grown (he j h1 h2).2 hgr (fun r hr hc => hc.2 (by cases hr; rfl))⟩

theorem w_setO {x i y : Operand} {d : Tmp} {ty1 ty2 : TypeId} {ps1 ps2 : String} {af1 af2 : Array Edge} (E : ElT P t e 1 z bytes false)
    (hdl : ∀ p : Value, (a.put (some d) p).eval (.tmp d) = p) {α : Type} {R : Rel α} [Good R] {B : Nat} {PB : Nat → Prop} {v : Value} {xs : List α} {k : Nat} (hx : a.eval x = v) (hi : a.eval i = .int .i64 (k : Int))
    {u : Value} (hy : ∀ p : Value, (a.put (some d) p).eval y = u) (hv : Own B e R PB w v xs) (hk : k < xs.length) (hu1 : u.oneCell' = true) (yy : α) (hu : R (fun b => PB b ∧ v.ownBlock ≠ some b) w u yy)
    (h : ∀ (p : Value) (w' : World), Own B e R PB w' v (xs.set k yy) → w.grownBy w' v.ownBlock → wpList P ops Q rest (a.put (some d) p) w') :
    wpList P ops Q ({ dst := some d, op := .indexAddr t x i, type := ty1, pos := ps1, after := af1, guard := none } :: { dst := none, op := .store e (.tmp d) y, type := ty2, pos := ps2, after := af2, guard := none } :: rest) a w := by
  obtain ⟨g, cap, rfl, hst, ho, hgr, hob⟩ := Own.set (P := P) hv hk hu1 yy hu
  have hix := run_indexAt (w := w) E g 0 xs.length cap k .i64 hk
  rw [Nat.mul_one, Nat.zero_add] at hix
  refine wpList_value rfl (v := .pointer (some ⟨g, k, none⟩)) (w' := w) ?_ ?_
  · unfold execOp
    simp only [hx, hi, Sem.run_bind, hix, Result.andThen_ok, Sem.run_pure]
  · refine wpList_skip rfl (w' := w.setCell ⟨g, k, none⟩ u) ?_ (h _ _ ho (by rw [hob]; exact hgr))
    have he := hdl (.pointer (some ⟨g, k, none⟩))
    have hy' := hy (.pointer (some ⟨g, k, none⟩))
    unfold execOp
    simp only [he, hy', Instr.storeAt, Instr.sureAddr, storeVar, Sem.run_bind, E.size, Result.andThen_ok, Sem.run_pure]
    simp [cells_one hu1, storeCells, hst]
end

theorem Own.ints {B : Nat} {e : TypeId} {P P' : Nat → Prop} {w : World} {v : Value} {xs : List Int} (h : Own B e RI P w v xs) : Own B e RI P' w v xs := by
  obtain ⟨us, hl, ho, he⟩ := h
  exact ⟨us, hl, ho, fun k h1 h2 => ⟨(he k h1 h2).1, (he k h1 h2).2⟩⟩
theorem Own.one {α : Type} {R : Rel α} {B : Nat} {e : TypeId} {P : Nat → Prop} {w : World} {v : Value} {xs : List α} (h : Own B e R P w v xs) : v.oneCell' = true := by
  obtain ⟨a, c, rfl⟩ := h.len
  rfl
theorem own_clone {α : Type} {R : Rel α} {B c0 : Nat} {e e' : TypeId} {P P' Q : Nat → Prop} {w w4 : World} {x c : Value} {L : List α} {ys : List Int} (ho : Own B e R P w x L) (h4 : Own w.heap.size e' RI P' w4 c ys) (hc0 : c0 ≤ w.heap.size) :
    Arr RI (fun b => (Q b ∨ c0 ≤ b) ∧ x.ownBlock ≠ some b) w4 c ys :=
  Good.weak (R := Arr RI) (h4.ints (P' := noB)).arr (fun b hb => by
    have hb' : w.heap.size ≤ b := hb.resolve_left (fun h => h)
    exact ⟨.inr (Nat.le_trans hc0 hb'), fun hc => Nat.not_le.2 (ho.lt b hc).2 hb'⟩)
theorem list_set_self {α : Type} {xs : List α} {k : Nat} (h : k < xs.length) : xs.set k xs[k] = xs := by
  apply List.ext_getElem
  · simp
  · intro i h1 h2
    rw [List.getElem_set]
    split
    · rename_i e; subst e; rfl
    · rfl

theorem refI_ok (l p : List (List Int)) : ((refI l p).2 == 0) = refutesI l p := by
  unfold refI refutesI
  by_cases h : 0 ≤ gapI l p
  · rw [if_pos h, decide_eq_false (by omega)]; rfl
  · rw [if_neg h, decide_eq_true (by omega)]; rfl

theorem trim1_c {P P' : Nat → Prop} {u v : Value} {l p : List (List Int)} (V b : Nat) (w : World) (hV : V ≤ 4096) (hu : Rows P w u l) (hv : Rows P' w v p) (hl : WfL V l) (hp : WfL V p)
    (hb0 : w.cell? ⟨b, 0, none⟩ = some (.int .i64 (V : Int))) (hb1 : w.cell? ⟨b, 1, none⟩ = some u) :
    Calls Try.prog 51 #[v, .pointer (some ⟨b, 0, none⟩)] w fun e w' => e = .returned (.bool (refutesI l p)) ∧ Ext w w' := by
  have hr := Lib.hid (refI_ok l p)
  go_enter Try.func51, Try.ntmps51
  go_wp2_with (go_at_call 40; refine (prefutes_c V _ hV hu hv hl hp).mono ?_; rintro e w2 ⟨rfl, hx2⟩)
  go_ret
  exact ⟨ret_b (by rw [← hr.out]), hx2⟩

theorem core1_c {P P' : Nat → Prop} {u v : Value} {l p : List (List Int)} (V b c : Nat) (w : World) (hV : V ≤ 4096) (hu : Rows P w u l) (hv : Rows P' w v p) (hl : WfL V l) (hp : WfL V p)
    (hb0 : w.cell? ⟨b, 0, none⟩ = some (.int .i64 (V : Int))) (hb1 : w.cell? ⟨c, 0, none⟩ = some v) :
    Calls Try.prog 53 #[u, .pointer (some ⟨b, 0, none⟩), .pointer (some ⟨c, 0, none⟩)] w fun e w' => e = .returned (.bool (refutesI l p)) ∧ Ext w w' := by
  have hr := Lib.hid (refI_ok l p)
  go_enter Try.func53, Try.ntmps53
  go_wp2_with (go_at_call 40; refine (prefutes_c V _ hV hu hv hl hp).mono ?_; rintro e w2 ⟨rfl, hx2⟩)
  go_ret
  exact ⟨ret_b (by rw [← hr.out]), hx2⟩

theorem wc_length {V : Nat} (hV : V ≤ 4096) {c : List Int} (h : WfC V c) : c.length ≤ 4096 := by
  have key : ∀ (c : List Int) (m : Nat), (∀ x ∈ c, m ≤ x.natAbs ∧ x.natAbs ≤ V) → (c.Pairwise fun x y => x.natAbs < y.natAbs) → c.length + m ≤ V + 1 ∨ c = [] := by
    intro c
    induction c with
    | nil => intro m _ _; exact .inr rfl
    | cons x c ih =>
      intro m h1 h2
      have h3 := List.pairwise_cons.1 h2
      have hx := h1 x (by simp)
      refine .inl ?_
      rcases ih (x.natAbs + 1) (fun y hy => ⟨h3.1 y hy, (h1 y (by simp [hy])).2⟩) h3.2 with h | rfl
      · simp only [List.length_cons]; omega
      · simp; omega
  rcases key c 1 (fun x hx => ⟨by have := (h.rng x hx).1; omega, (h.rng x hx).2⟩) h.inc with h | rfl
  · omega
  · simp

set_option maxHeartbeats 1000000 in
theorem ptrim_c {P P' : Nat → Prop} {u v : Value} {l p : List (List Int)} (vars : Int) (w : World) (hu : Rows P w u l) (hv : Rows P' w v p) (hr : IRR l) :
    Calls Try.prog 18 #[.agg #[.int .i64 vars, u], v] w (RetP (fun w' r => ∃ x, r = .tuple #[x, .int .i64 (verifyI vars l p).2] ∧ Rows (fun k => P' k ∨ w.heap.size ≤ k) w' x (if (verifyI vars l p).2 ≠ 0 then [] else trimI l p)) w) := by
  have hle := hv.le
  by_cases hz : (verifyI vars l p).2 = 0
  · have Hz := Lib.hid hz
    obtain ⟨hc, hp, hbad, hgap⟩ := verifyI_ok hz
    obtain ⟨h0, h1, _, h2⟩ := checkI_zero hc
    obtain ⟨V, rfl⟩ : ∃ V : Nat, vars = (V : Int) := ⟨vars.toNat, by omega⟩
    have hV : V ≤ 4096 := by omega
    have hwl := Lib.hid ((clausesI_iff hV).1 h2)
    have hwp := Lib.hid (badI_wl hV hbad)
    have hne : 0 < p.length := by
      cases p with
      | nil => rw [gapI_nil] at hgap; omega
      | cons _ _ => simp
    have hj : Hid ((p.length : Int) - 1 = ((p.length - 1 : Nat) : Int)) := by show _ = _; omega
    clear hc hbad hgap h0 h1 h2 hz
    go_enter Try.func18, Try.ntmps18
    go_wp2_with (first | (go_at_call 13; refine (pverify_c _ _ (hu.ext (Ext.of_alloc _ _)) (hv.ext (Ext.of_alloc _ _)) hr).mono ?_; rintro e w1 ⟨rfl, hx1⟩; rw [Hz.out]) | ((with_reducible refine w_len elR.und ?_ ?_ hv.len ?_); (· rfl); (· rfl); simp only [Act.put, List.setIfInBounds_toArray, List.set_cons_succ, List.set_cons_zero]))
    have hb0 : w1.cell? ⟨w.heap.size, 0, none⟩ = some (.int .i64 (V : Int)) := hx1.cell (by simp)
    have hb1 : w1.cell? ⟨w.heap.size, 1, none⟩ = some u := hx1.cell (by simp)
    have hx := (Ext.of_alloc w _).trans hx1
    have hv1 := hv.ext hx
    have hu1 := hu.ext hx
    have hR := reduced_c (p.length - 1) 51 #[.pointer (some ⟨w.heap.size, 0, none⟩)] (refutesI l) w1 hv1 (Nat.sub_le _ _) (by omega) Try.call51
      (fun W y xs hW hy hs _ => trim1_c V w.heap.size W hV (hu1.ext hW) hy hwl.out (fun c hc => hwp.out c (hs c hc)) (hW.cell hb0) (hW.cell hb1))
    have hres : Hid (chosenI p (keptI (refutesI l) p (p.length - 1)) = trimI l p) := by
      show _ = _
      unfold keptI trimI
      rw [prune_chosen, chosenI_up]
    rw [hres.out] at hR
    have hsub : (trimI l p).length ≤ p.length := (prune_sub (ok := refutesI l) (p.length - 1) p).2
    have hmem : ∀ c ∈ trimI l p, c.length ≤ 4096 := fun c hc => by
      have hw := hwp.out c ((prune_sub (ok := refutesI l) (p.length - 1) p).1 c hc)
      exact wc_length hV hw
    have Hmem := Lib.hid hmem
    rw [hj.out]
    clear hb0 hb1 hmem hres hj
    go_wp2_with (first | (go_at_call 50; refine hR.mono ?_; rintro e w2 ⟨r, rfl, ⟨x, y, rfl, hox, _⟩, hx2⟩; have hlx := hox.len) | ((with_reducible refine w_len elR.und ?_ ?_ hlx ?_); (· rfl); (· rfl); simp only [Act.put, List.setIfInBounds_toArray, List.set_cons_succ, List.set_cons_zero]))
    go_loopw [31] (fun i wr => ∃ (k : Nat), k ≤ (trimI l p).length ∧ i = .int .i64 (k : Int) ∧ Own w1.heap.size 25 (Arr RI) (fun k => P' k ∨ w.heap.size ≤ k) wr x (trimI l p) ∧ Ext w1 wr) (fun i _ => (trimI l p).length - (intOf i).toNat)
    case atStart => exact ⟨0, Nat.zero_le _, rfl, (hox.unfix (Nat.le_refl _)).mono (Nat.le_refl _) (fun _ h => .inl h.1), hx2⟩
    case round =>
      obtain ⟨k, hk, rfl, ho, hx3⟩ := hrel
      by_cases hlt : k < (trimI l p).length
      · have hoa := ho.arr
        have hm8 : ((trimI l p)[k]).length * 8 ≤ 140737488355328 := by have := Hmem.out _ (List.getElem_mem hlt); omega
        go_wp2_with (first | ((with_reducible refine w_ix elR ?_ ?_ ?_ ?_ ?_ hoa hlt ?_); (· rfl); (· exact fun _ => rfl); (· exact fun _ => rfl); (· rfl); (· rfl); intro _ c hcc h1c; simp only [Act.put, List.setIfInBounds_toArray, List.set_cons_succ, List.set_cons_zero]) | (go_at_call 52; refine (iclone_c _ hcc hm8).mono ?_; rintro e w4 ⟨c4, rfl, ho4, hx4⟩; have hoc := ho.ext hx4; have hyy := own_clone (Q := P') ho ho4 (hx.trans hx3).size; have h1c := ho4.one) | ((with_reducible refine w_setO elR ?_ ?_ ?_ ?_ hoc hlt h1c (trimI l p)[k] hyy ?_); (· exact fun _ => rfl); (· rfl); (· rfl); (· exact fun _ => rfl); intro _ w5 ho5 hg5; simp only [Act.put, List.setIfInBounds_toArray, List.set_cons_succ, List.set_cons_zero]))
        rw [list_set_self hlt] at ho5
        go_roundw
        case rel => exact ⟨k + 1, hlt, by go_num, ho5, Below.grown (hx3.trans hx4) hg5 (hx3.trans hx4).size (fun r hr => (hoc.lt r hr).1)⟩
        case measure => simp [intOf]; omega
      · obtain rfl : k = (trimI l p).length := by omega
        go_wp2
        go_ret2
        refine ⟨_, rfl, ⟨_, by rw [Hz.out]; rfl, ?_⟩, hx.trans hx3⟩
        try rw [if_neg (by simp [Hz.out])]
        exact Good.weak (R := Rows) ho.arr (fun k hk => hk.elim id (fun h => .inr (Nat.le_trans hx.size h)))
  · have Hz := Lib.hid hz
    go_enter Try.func18, Try.ntmps18
    go_wp2_with (first | (go_at_call 13; refine (pverify_c _ _ (hu.ext (Ext.of_alloc _ _)) (hv.ext (Ext.of_alloc _ _)) hr).mono ?_; rintro e w1 ⟨rfl, hx1⟩))
    go_ret2
    refine ⟨_, rfl, ⟨_, rfl, ?_⟩, (Ext.of_alloc w _).trans hx1⟩
    try rw [if_pos Hz.out]
    exact Arr.nil'

theorem rule_core (l p : List (List Int)) : keptI (fun x => refutesI x p) l l.length = coreI l p := rfl

set_option maxHeartbeats 1000000 in
theorem pcore_c {P P' : Nat → Prop} {u v : Value} {l p : List (List Int)} (vars : Int) (w : World) (hu : Rows P w u l) (hv : Rows P' w v p) (hr : IRR l) :
    Calls Try.prog 19 #[.agg #[.int .i64 vars, u], v] w (RetP (fun w' r => ∃ x, r = .tuple #[x, .int .i64 (verifyI vars l p).2] ∧ Ints (fun k => w.heap.size ≤ k) w' x (if (verifyI vars l p).2 ≠ 0 then [] else coreI l p)) w) := by
  by_cases hz : (verifyI vars l p).2 = 0
  · have Hz := Lib.hid hz
    obtain ⟨hc, hp, hbad, hgap⟩ := verifyI_ok hz
    obtain ⟨h0, h1, hl, h2⟩ := checkI_zero hc
    obtain ⟨V, rfl⟩ : ∃ V : Nat, vars = (V : Int) := ⟨vars.toNat, by omega⟩
    have hV : V ≤ 4096 := by omega
    have hwl := Lib.hid ((clausesI_iff hV).1 h2)
    have hwp := Lib.hid (badI_wl hV hbad)
    have hl2 : l.length ≤ 1000000 := by omega
    obtain ⟨av, cv, rfl⟩ := hv.len
    clear hc hbad hgap h0 h1 h2 hz
    go_enter Try.func19, Try.ntmps19
    go_wp2_with (first | (go_at_call 13; refine (pverify_c _ _ (hu.ext (((Ext.refl _).alloc _).alloc _)) (hv.ext (((Ext.refl _).alloc _).alloc _)) hr).mono ?_; rintro e w1 ⟨rfl, hx1⟩; rw [Hz.out]; have hb0 : w1.cell? ⟨w.heap.size, 0, none⟩ = some (.int .i64 (V : Int)) := hx1.cell (((Ext.refl _).alloc _).cell (by simp)); have hb1 : w1.cell? ⟨w.heap.size, 1, none⟩ = some u := hx1.cell (((Ext.refl _).alloc _).cell (by simp)); have hb2 : w1.cell? ⟨w.heap.size + 1, 0, none⟩ = some (.slice av p.length cv) := hx1.cell (by simp); have hx := ((((Ext.refl w).alloc _).alloc _).trans hx1); have hu1 := hu.ext hx; have hv1 := hv.ext hx) | ((with_reducible refine w_len elR.und ?_ ?_ hu1.len ?_); (· rfl); (· rfl); simp only [Act.put, List.setIfInBounds_toArray, List.set_cons_succ, List.set_cons_zero]))
    have hR := reduced_c l.length 53 #[.pointer (some ⟨w.heap.size, 0, none⟩), .pointer (some ⟨w.heap.size + 1, 0, none⟩)] (fun x => refutesI x p) w1 hu1 (Nat.le_refl _) hl2 Try.call53
      (fun W y xs hW hy hs _ => core1_c V w.heap.size (w.heap.size + 1) W hV hy (hv1.ext hW) (fun c hc => hwl.out c (hs c hc)) hwp.out (hW.cell hb0) (hW.cell hb2))
    rw [rule_core] at hR
    clear hb0 hb1 hb2
    go_wp2_with (go_at_call 50; refine hR.mono ?_; rintro e w2 ⟨r, rfl, ⟨x, y, rfl, _, hoy⟩, hx2⟩)
    go_ret2
    refine ⟨_, rfl, ⟨_, by rw [Hz.out]; rfl, ?_⟩, hx.trans hx2⟩
    try rw [if_neg (by simp [Hz.out])]
    exact Good.weak (R := Ints) hoy.arr (fun k hk => hk.elim (fun h => h.elim) (fun h => Nat.le_trans hx.size h))
  · have Hz := Lib.hid hz
    obtain ⟨av, cv, rfl⟩ := hv.len
    go_enter Try.func19, Try.ntmps19
    go_wp2_with (first | (go_at_call 13; refine (pverify_c _ _ (hu.ext (((Ext.refl _).alloc _).alloc _)) (hv.ext (((Ext.refl _).alloc _).alloc _)) hr).mono ?_; rintro e w1 ⟨rfl, hx1⟩) | fail)
    go_ret2
    refine ⟨_, rfl, ⟨_, rfl, ?_⟩, (((Ext.refl _).alloc _).alloc _).trans hx1⟩
    try rw [if_pos Hz.out]
    exact Arr.nil'

end Go.Proofs.Ytpiidgcljlalmaa
namespace Go.Proofs.Ytpiidgcljlalmaa
open Go.RowKit

theorem core_facts {V : Nat} (hV : V ≤ 4096) {l p : List (List Int)} (h : Refut V l p) : List.Sublist (coreI l p) (upI l.length) ∧ refutesI (chosenI l (coreI l p)) p = true ∧ ∀ i, i < (coreI l p).length → refutesI (chosenI l (remI (coreI l p) i)) p = false := by
  have hup : ∀ x ∈ upI l.length, 0 ≤ x ∧ x < l.length := fun x hx => upI_mem hx
  obtain ⟨A', h1, h2, h3, h4⟩ := prune_min (ok := fun ks => refutesI (chosenI l ks) p) (Pr := fun y : Int => 0 ≤ y ∧ y < l.length) (Q := fun _ => True) (fun _ _ _ => trivial) (fun A A' S c hpr _ _ hs ho' => by
      obtain ⟨o3, o4⟩ := refutesI_iff.1 ho'
      have hA : ∀ y ∈ A ++ S, 0 ≤ y ∧ y < (l.length : Int) := fun y hy => hpr y (by rcases List.mem_append.1 hy with hy | hy <;> simp [hy])
      have hA' : ∀ y ∈ A' ++ S, y ∈ A ++ S := fun y hy => by
        rcases List.mem_append.1 hy with hy | hy
        · exact List.mem_append.2 (.inl (hs.subset hy))
        · exact List.mem_append.2 (.inr hy)
      have hw : WfL V (chosenI l (A ++ S)) := fun d hd => h.wl d (chosenI_mem hA d hd)
      have hw' : WfL V (chosenI l (A' ++ S)) := fun d hd => h.wl d (chosenI_mem (fun y hy => hA y (hA' y hy)) d hd)
      refine refutesI_iff.2 ⟨gapF_mono hV hw' hw h.wp (fun x hx => ?_) o3, o4⟩
      simp only [chosenI, List.mem_map] at hx ⊢
      obtain ⟨y, hy, e⟩ := hx
      exact ⟨y, hA' y hy, e⟩) l.length (upI l.length) [] (upI_length _) (by simpa using hup) trivial (by rw [List.append_nil]; show refutesI (chosenI l (upI l.length)) p = true; rw [chosenI_up]; exact refutesI_iff.2 ⟨h.ok, h.last⟩)
  rw [List.append_nil, List.append_nil] at h2
  have e : coreI l p = A' := h2
  rw [e]
  rw [List.append_nil] at h3
  exact ⟨h1, h3, fun i hi => by have := h4 i hi; rw [List.append_nil] at this; exact this⟩

end Go.Proofs.Ytpiidgcljlalmaa
