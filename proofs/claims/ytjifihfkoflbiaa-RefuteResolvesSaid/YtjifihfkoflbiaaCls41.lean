/-
  The contracts of the program's functions on clauses (package clauses), which hand back what the reference's do.
-/
import Derived.Test.YtjifihfkoflbiaaRef41
namespace Go.Proofs.Ytjifihfkoflbiaa
open Go.RowKit

/-- an int's range -/
abbrev IR (x : Int) : Prop := -9223372036854775808 ≤ x ∧ x ≤ 9223372036854775807
def pvarI (x : Int) : Int := if varI x ≤ 0 then 0 else varI x

theorem wrap64_id {x : Int} (h : IR x) : wrap64 x = x := by unfold IR at h; unfold wrap64; omega
theorem wrap64_neg {x : Int} (h : IR x) : wrap64 (-x) = -x ∨ x = -9223372036854775808 := by
  by_cases hx : x = -9223372036854775808
  · exact .inr hx
  · exact .inl (wrap64_id ⟨by have := h.1; have := h.2; omega, by have := h.1; omega⟩)
theorem good_pvar {vars x : Int} (hx : IR x) (h1 : vars ≤ 9223372036854775807) : goodI vars x = true ↔ ¬ (pvarI x < 1 ∨ vars < pvarI x) := by
  unfold goodI pvarI varI
  rw [decide_eq_true_eq]
  rcases wrap64_neg hx with h | rfl
  · rw [h]; split <;> split <;> omega
  · have : wrap64 (-(-9223372036854775808)) = -9223372036854775808 := by unfold wrap64; omega
    rw [this]; simp; omega
theorem good_var {vars x : Int} (h1 : vars ≤ 9223372036854775807) (h : goodI vars x = true) : varI x = (if x < 0 then -x else x) ∧ 1 ≤ varI x ∧ varI x ≤ vars ∧ IR x ∧ wrap64 (-x) = -x := by
  unfold goodI at h
  rw [decide_eq_true_eq] at h
  have hr : IR x := ⟨by omega, by omega⟩
  have hw : wrap64 (-x) = -x := wrap64_id ⟨by omega, by omega⟩
  unfold varI
  rw [hw]
  split <;> exact ⟨rfl, by omega, by omega, hr, rfl⟩
theorem good_pvar_eq {vars x : Int} (h1 : vars ≤ 9223372036854775807) (h : goodI vars x = true) : pvarI x = varI x := by
  have := good_var h1 h
  unfold pvarI; rw [if_neg (by omega)]

theorem pvar_le {x y : Int} (h1 : 1 ≤ pvarI x) : pvarI x ≤ pvarI y ↔ varI x ≤ varI y := by
  unfold pvarI at *
  by_cases a : varI x ≤ 0
  · rw [if_pos a] at h1; omega
  · rw [if_neg a] at h1 ⊢
    by_cases b : varI y ≤ 0
    · rw [if_pos b]; omega
    · rw [if_neg b]

theorem variable_c (x : Int) (w : World) : Calls Try.prog 58 #[.int .i64 x] w fun e w' => e = .returned (.int .i64 (pvarI x)) ∧ w' = w := by
  unfold pvarI varI
  go_enter Try.func58, Try.ntmps58
  go_wp2
  all_goals (go_ret; refine ⟨ret_i ?_, rfl⟩)
  all_goals omega

set_option maxHeartbeats 1000000 in
theorem clause2_c {P : Nat → Prop} {v : Value} {zs : List Int} (vars : Int) (w : World) (hv : Ints P w v zs) (hv1 : 0 ≤ vars) (hv2 : vars ≤ 9223372036854775807) (hr : ∀ x ∈ zs, IR x) :
    Calls Try.prog 61 #[.int .i64 vars, v] w fun e w' => e = .returned (.int .i64 (clauseI vars none zs)) ∧ ∃ n, w' = w.drewN n := by
  have hle := hv.le
  go_enter Try.func61, Try.ntmps61
  go_wp2_with ((with_reducible refine w_len elI.und ?_ ?_ hv.len ?_); (· rfl); (· rfl); simp only [Act.put, List.setIfInBounds_toArray, List.set_cons_succ, List.set_cons_zero])
  go_loopw [10] (fun i wr => ∃ k m : Nat, k ≤ zs.length ∧ i = .int .i64 k ∧ Hid (clauseI vars (prevI zs k) (zs.drop k) = clauseI vars none zs) ∧ wr = w.drewN m) (fun i _ => zs.length - (intOf i).toNat)
  case atStart => exact ⟨0, 0, Nat.zero_le _, rfl, rfl, rfl⟩
  case round =>
    obtain ⟨k, m, hk, rfl, hn, rfl⟩ := hrel
    have hv' := hv.ext (Ext.of_drewN w m)
    by_cases hlt : k < zs.length
    · have hir := hr _ (List.getElem_mem hlt)
      by_cases hx : goodI vars zs[k] = true
      · have hp := good_pvar_eq hv2 hx
        obtain ⟨-, hp1, hp2, -, -⟩ := good_var hv2 hx
        rw [← hp] at hp1 hp2
        have Hp := Lib.hid hp
        have Hx := Lib.hid hx
        clear hp hx hir
        by_cases h0 : k = 0
        · subst h0
          go_wp2_with (first | ((with_reducible refine w_ixI elI ?_ ?_ ?_ ?_ ?_ hv' hlt ?_); (· rfl); (· exact fun _ => rfl); (· exact fun _ => rfl); (· rfl); (· rfl); intro _; simp only [Act.put, List.setIfInBounds_toArray, List.set_cons_succ, List.set_cons_zero]) | (go_at_call 58; refine (variable_c _ _).mono ?_; rintro e w1 ⟨rfl, rfl⟩))
          go_roundw
          case rel => exact ⟨1, m, hlt, rfl, by rw [← hn.out, clauseI_zero hlt Hx.out]; rfl, rfl⟩
          case measure => simp [intOf]; omega
        · obtain ⟨j, hj, hjl⟩ : ∃ j, k = j + 1 ∧ j < zs.length := ⟨k - 1, by omega, by omega⟩
          have hs : Hid (clauseI vars (prevI zs k) (zs.drop k) = if varI zs[k] ≤ varI zs[j] then 14 else clauseI vars (prevI zs (k + 1)) (zs.drop (k + 1))) := by
            subst hj; exact clauseI_succ hlt Hx.out
          have hpos : 0 < k := by omega
          have Hj : Hid ((k : Int) - 1 = (j : Int)) := by show _ = _; omega
          clear h0 hj
          go_wp2_with (first | ((with_reducible refine w_ixI elI ?_ ?_ ?_ ?_ ?_ hv' hlt ?_); (· rfl); (· exact fun _ => rfl); (· exact fun _ => rfl); (· rfl); (· rfl); intro _; simp only [Act.put, List.setIfInBounds_toArray, List.set_cons_succ, List.set_cons_zero]))
          (go_at_call 58; refine (variable_c _ _).mono ?_; rintro e w1 ⟨rfl, rfl⟩)
          go_wp2_with (first | (((with_reducible refine w_ixJ elI ?_ ?_ ?_ ((k : Int) - 1) Hj.out ?_ ?_ hv' hjl ?_); (· rfl); (· exact fun _ => rfl); (· exact fun _ => rfl); (· rfl); (· rfl); intro _ y hyy h1y; simp only [Act.put, List.setIfInBounds_toArray, List.set_cons_succ, List.set_cons_zero]); cases (show y = .int .i64 zs[j] from hyy)) | (go_at_call 58; refine (variable_c _ _).mono ?_; rintro e w1 ⟨rfl, rfl⟩))
          · go_ret
            refine ⟨ret_i ?_, m, rfl⟩
            have hle2 : pvarI zs[k] ≤ pvarI zs[j] := by omega
            rw [← hn.out, hs.out, if_pos ((pvar_le hp1).1 hle2)]
          · go_roundw
            case rel =>
              have hle2 : ¬ pvarI zs[k] ≤ pvarI zs[j] := by omega
              exact ⟨k + 1, m, hlt, by go_num, by rw [← hn.out, hs.out, if_neg (fun h => hle2 ((pvar_le hp1).2 h))]; rfl, rfl⟩
            case measure => simp [intOf]; omega
      · have hb := Lib.hid (clauseI_bad hlt hx)
        have hx' : pvarI zs[k] < 1 ∨ vars < pvarI zs[k] := Classical.not_not.1 fun h => hx ((good_pvar hir hv2).2 h)
        clear hx hr hir
        by_cases hlow : pvarI zs[k] < 1
        · clear hx'
          go_wp2_with (first | ((with_reducible refine w_ixI elI ?_ ?_ ?_ ?_ ?_ hv' hlt ?_); (· rfl); (· exact fun _ => rfl); (· exact fun _ => rfl); (· rfl); (· rfl); intro _; simp only [Act.put, List.setIfInBounds_toArray, List.set_cons_succ, List.set_cons_zero]) | (go_at_call 58; refine (variable_c _ _).mono ?_; rintro e w1 ⟨rfl, rfl⟩))
          go_ret
          exact ⟨ret_i (by rw [← hn.out, hb.out]), m, rfl⟩
        · have hhi : vars < pvarI zs[k] := hx'.resolve_left hlow
          clear hx'
          go_wp2_with (first | ((with_reducible refine w_ixI elI ?_ ?_ ?_ ?_ ?_ hv' hlt ?_); (· rfl); (· exact fun _ => rfl); (· exact fun _ => rfl); (· rfl); (· rfl); intro _; simp only [Act.put, List.setIfInBounds_toArray, List.set_cons_succ, List.set_cons_zero]) | (go_at_call 58; refine (variable_c _ _).mono ?_; rintro e w1 ⟨rfl, rfl⟩))
          go_ret
          exact ⟨ret_i (by rw [← hn.out, hb.out]), m, rfl⟩
    · obtain rfl : k = zs.length := by omega
      go_wp2
      go_ret
      exact ⟨ret_i (by rw [← hn.out, List.drop_length, clauseI]), m, rfl⟩

theorem size_c {P : Nat → Prop} {u : Value} {l : List (List Int)} (vars : Int) (w : World) (hv : Rows P w u l) :
    Calls Try.prog 60 #[.agg #[.int .i64 vars, u]] w fun e w' => e = .returned (.int .i64 (sizesI vars l.length)) ∧ Ext w w' := by
  have hle := hv.le
  go_enter Try.func60, Try.ntmps60
  go_wp2_with ((with_reducible refine w_len elR.und ?_ ?_ hv.len ?_); (· rfl); (· rfl); simp only [Act.put, List.setIfInBounds_toArray, List.set_cons_succ, List.set_cons_zero])
  all_goals go_ret
  all_goals exact ⟨ret_i (by unfold sizesI; (repeat' split) <;> first | rfl | omega), Ext.of_alloc _ _⟩

/-- each literal is an int -/
abbrev IRR (l : List (List Int)) : Prop := ∀ c ∈ l, ∀ x ∈ c, IR x

set_option maxHeartbeats 400000 in
theorem pcheck_c {P : Nat → Prop} {u : Value} {l : List (List Int)} (vars : Int) (w : World) (hv : Rows P w u l) (hr : IRR l) :
    Calls Try.prog 38 #[.agg #[.int .i64 vars, u]] w fun e w' => e = .returned (.int .i64 (checkI vars l)) ∧ Ext w w' := by
  have hle := hv.le
  by_cases hs : sizesI vars l.length = 0
  · have hvars : 0 ≤ vars ∧ vars ≤ 4096 := by unfold sizesI at hs; split at hs <;> omega
    have hck : Hid (checkI vars l = clausesI vars l) := by show _ = _; unfold checkI; rw [if_neg (by simp [hs])]
    go_enter Try.func38, Try.ntmps38
    go_wp2_with (first | (go_at_call 60; refine (size_c _ _ (hv.ext (Ext.of_alloc _ _))).mono ?_; rintro e w1 ⟨rfl, hx1⟩; have hb1 : w1.cell? ⟨w.heap.size, 1, none⟩ = some u := hx1.cell (by simp)) | ((with_reducible refine w_len elR.und ?_ ?_ hv.len ?_); (· rfl); (· rfl); simp only [Act.put, List.setIfInBounds_toArray, List.set_cons_succ, List.set_cons_zero]))
    have hb0 : w1.cell? ⟨w.heap.size, 0, none⟩ = some (.int .i64 vars) := hx1.cell (by simp)
    have hx := (Ext.of_alloc w _).trans hx1
    have hv1 := hv.ext hx
    clear hx1 hs
    go_loopw [15] (fun i wr => ∃ k m : Nat, k ≤ l.length ∧ i = .int .i64 k ∧ Hid (clausesI vars (l.drop k) = clausesI vars l) ∧ wr = w1.drewN m) (fun i _ => l.length - (intOf i).toNat)
    case atStart => exact ⟨0, 0, Nat.zero_le _, rfl, rfl, rfl⟩
    case round =>
      obtain ⟨k, m, hk, rfl, hn, rfl⟩ := hrel
      have hv' := hv1.ext (Ext.of_drewN w1 m)
      by_cases hlt : k < l.length
      · have hst := Lib.hid (clausesI_step (vars := vars) hlt)
        have hrk := hr _ (List.getElem_mem hlt)
        by_cases hz : clauseI vars none l[k] = 0
        · go_wp2_with (first | ((with_reducible refine w_ix elR ?_ ?_ ?_ ?_ ?_ hv' hlt ?_); (· rfl); (· exact fun _ => rfl); (· exact fun _ => rfl); (· rfl); (· rfl); intro _ c hc h1c; simp only [Act.put, List.setIfInBounds_toArray, List.set_cons_succ, List.set_cons_zero]) | (go_at_call 61; refine (clause2_c vars _ hc (by omega) (by omega) hrk).mono ?_; rintro e w2 ⟨rfl, nq, rfl⟩))
          go_roundw
          case rel => exact ⟨k + 1, m + nq, hlt, by go_num, by rw [← hn.out, hst.out, if_neg (by simp [hz])]; rfl, rfl⟩
          case measure => simp [intOf]; omega
        · go_wp2_with (first | ((with_reducible refine w_ix elR ?_ ?_ ?_ ?_ ?_ hv' hlt ?_); (· rfl); (· exact fun _ => rfl); (· exact fun _ => rfl); (· rfl); (· rfl); intro _ c hc h1c; simp only [Act.put, List.setIfInBounds_toArray, List.set_cons_succ, List.set_cons_zero]) | (go_at_call 61; refine (clause2_c vars _ hc (by omega) (by omega) hrk).mono ?_; rintro e w2 ⟨rfl, nq, rfl⟩))
          go_ret
          exact ⟨ret_i (by rw [hck.out, ← hn.out, hst.out, if_pos hz]), hx.drewN _⟩
      · obtain rfl : k = l.length := by omega
        go_wp2
        go_ret
        exact ⟨ret_i (by rw [hck.out, ← hn.out, List.drop_length, clausesI]), hx.drewN _⟩
  · have hck : Hid (checkI vars l = sizesI vars l.length) := by show _ = _; unfold checkI; rw [if_pos hs]
    go_enter Try.func38, Try.ntmps38
    go_wp2_with (go_at_call 60; refine (size_c _ _ (hv.ext (Ext.of_alloc _ _))).mono ?_; rintro e w1 ⟨rfl, hx1⟩)
    go_ret
    exact ⟨ret_i (by rw [hck.out]), (Ext.of_alloc w _).trans hx1⟩

end Go.Proofs.Ytjifihfkoflbiaa
