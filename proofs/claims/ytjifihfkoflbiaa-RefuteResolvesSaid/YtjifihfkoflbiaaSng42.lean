/-
  The contracts of the program's functions on refutations (package refute), first part: single, the prover's value, assign, unit.
-/
import Derived.Test.YtjifihfkoflbiaaCls41
import Derived.Test.YtjifihfkoflbiaaSpec42
namespace Go.Proofs.Ytjifihfkoflbiaa
open Go.RowKit

/-- the variable before an index, 0 at the first -/
def beforeI (zs : List Int) (k : Nat) : Int := match prevI zs k with
  | none => 0
  | some p => varI p

theorem clauseI_before {vars : Int} {zs : List Int} {k : Nat} (h : k < zs.length) (hx : goodI vars zs[k] = true) (h1 : 1 ≤ varI zs[k]) :
    clauseI vars (prevI zs k) (zs.drop k) = if varI zs[k] ≤ beforeI zs k then 14 else clauseI vars (prevI zs (k + 1)) (zs.drop (k + 1)) := by
  cases k with
  | zero => rw [clauseI_zero h hx, if_neg (by show ¬ varI zs[0] ≤ 0; omega)]
  | succ k =>
    have hb : beforeI zs (k + 1) = varI zs[k] := by unfold beforeI; rw [prevI, List.getElem?_eq_getElem (by omega)]
    rw [clauseI_succ h hx, hb]

set_option maxHeartbeats 1000000 in
theorem single_c {P : Nat → Prop} {v : Value} {zs : List Int} (vars : Int) (w : World) (hv : Ints P w v zs) (hv1 : 0 ≤ vars) (hv2 : vars ≤ 9223372036854775807) :
    Calls Try.prog 39 #[.int .i64 vars, v] w fun e w' => e = .returned (.int .i64 (clauseI vars none zs)) ∧ w' = w := by
  have hle := hv.le
  go_enter Try.func39, Try.ntmps39
  go_wp2_with ((with_reducible refine w_len elI.und ?_ ?_ hv.len ?_); (· rfl); (· rfl); simp only [Act.put, List.setIfInBounds_toArray, List.set_cons_succ, List.set_cons_zero])
  go_loop [5, 11] (fun b i => ∃ k : Nat, k ≤ zs.length ∧ i = .int .i64 k ∧ b = .int .i64 (beforeI zs k) ∧ Hid (clauseI vars (prevI zs k) (zs.drop k) = clauseI vars none zs)) (fun _ i => zs.length - (intOf i).toNat)
  case atStart => exact ⟨0, Nat.zero_le _, rfl, rfl, rfl⟩
  case round =>
    obtain ⟨k, hk, rfl, rfl, hn⟩ := hrel
    by_cases hlt : k < zs.length
    · by_cases hx : goodI vars zs[k] = true
      · obtain ⟨hva, hp1, hp2, -, hw⟩ := good_var hv2 hx
        have Hx := Lib.hid hx
        have hgood := hx
        unfold goodI at hgood
        rw [decide_eq_true_eq] at hgood
        have hst := Lib.hid (clauseI_before hlt hx hp1)
        have hz0 : (zs[k] == 0) = false := beq_eq_false_iff_ne.2 hgood.1
        have hz1 : decide (zs[k] < -vars) = false := decide_eq_false (by omega)
        have hz2 : decide (vars < zs[k]) = false := decide_eq_false (by omega)
        have hlo := hgood.2.1
        have hhi := hgood.2.2
        have hnext : Hid (beforeI zs (k + 1) = varI zs[k]) := by show _ = _; unfold beforeI; rw [prevI, List.getElem?_eq_getElem hlt]
        by_cases hs : zs[k] < -zs[k]
        · have hvs : Hid (varI zs[k] = -zs[k]) := by show _ = _; rw [hva, if_pos (by omega)]
          clear hx hva hw hgood hp1 hp2
          by_cases hbf : -zs[k] ≤ beforeI zs k
          · go_wp2_with (first | ((with_reducible refine w_ixI elI ?_ ?_ ?_ ?_ ?_ hv hlt ?_); (· rfl); (· exact fun _ => rfl); (· exact fun _ => rfl); (· rfl); (· rfl); intro _; simp only [Act.put, List.setIfInBounds_toArray, List.set_cons_succ, List.set_cons_zero]))
            go_ret
            exact ⟨ret_i (by rw [← hn.out, hst.out, hvs.out, if_pos hbf]), rfl⟩
          · go_wp2_with (first | ((with_reducible refine w_ixI elI ?_ ?_ ?_ ?_ ?_ hv hlt ?_); (· rfl); (· exact fun _ => rfl); (· exact fun _ => rfl); (· rfl); (· rfl); intro _; simp only [Act.put, List.setIfInBounds_toArray, List.set_cons_succ, List.set_cons_zero]))
            go_round
            case rel => exact ⟨k + 1, hlt, by go_num, by rw [hnext.out, hvs.out], by show _ = _; rw [← hn.out, hst.out, hvs.out, if_neg hbf]⟩
            case measure => simp [intOf]; omega
        · have hvs : Hid (varI zs[k] = zs[k]) := by show _ = _; rw [hva, if_neg (by omega)]
          clear hx hva hw hgood hp1 hp2
          by_cases hbf : zs[k] ≤ beforeI zs k
          · go_wp2_with (first | ((with_reducible refine w_ixI elI ?_ ?_ ?_ ?_ ?_ hv hlt ?_); (· rfl); (· exact fun _ => rfl); (· exact fun _ => rfl); (· rfl); (· rfl); intro _; simp only [Act.put, List.setIfInBounds_toArray, List.set_cons_succ, List.set_cons_zero]))
            go_ret
            exact ⟨ret_i (by rw [← hn.out, hst.out, hvs.out, if_pos hbf]), rfl⟩
          · go_wp2_with (first | ((with_reducible refine w_ixI elI ?_ ?_ ?_ ?_ ?_ hv hlt ?_); (· rfl); (· exact fun _ => rfl); (· exact fun _ => rfl); (· rfl); (· rfl); intro _; simp only [Act.put, List.setIfInBounds_toArray, List.set_cons_succ, List.set_cons_zero]))
            go_round
            case rel => exact ⟨k + 1, hlt, by go_num, by rw [hnext.out, hvs.out], by show _ = _; rw [← hn.out, hst.out, hvs.out, if_neg hbf]⟩
            case measure => simp [intOf]; omega
      · have hb := Lib.hid (clauseI_bad hlt hx)
        have hx' : zs[k] = 0 ∨ zs[k] < -vars ∨ vars < zs[k] := by unfold goodI at hx; rw [decide_eq_true_eq] at hx; omega
        clear hx
        go_wp2_with (first | ((with_reducible refine w_ixI elI ?_ ?_ ?_ ?_ ?_ hv hlt ?_); (· rfl); (· exact fun _ => rfl); (· exact fun _ => rfl); (· rfl); (· rfl); intro _; simp only [Act.put, List.setIfInBounds_toArray, List.set_cons_succ, List.set_cons_zero]))
        all_goals first | omega | skip
        all_goals go_ret
        all_goals exact ⟨ret_i (by rw [← hn.out, hb.out]), rfl⟩
    · obtain rfl : k = zs.length := by omega
      go_wp2
      go_ret
      exact ⟨ret_i (by rw [← hn.out, List.drop_length, clauseI]), rfl⟩

end Go.Proofs.Ytjifihfkoflbiaa
