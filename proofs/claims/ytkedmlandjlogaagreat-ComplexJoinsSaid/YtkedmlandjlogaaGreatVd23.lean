/-
  Part 23 of the texts that the claims of this seat lean on: walks of the program's functions by contracts over symbolic frames, and plain laws of what they compute. No condition.
-/
import Derived.Test.YtkedmlandjlogaaGreatVd15
import Derived.Test.YtkedmlandjlogaaGreatVd19
import Derived.Test.YtkedmlandjlogaaGreatVd22
set_option linter.unusedVariables false
set_option linter.unusedSimpArgs false
set_option linter.unusedSectionVars false
namespace Go.Proofs.YtkedmlandjlogaaGreat
open Go.RowKit
set_option linter.unusedSimpArgs false

set_option maxHeartbeats 2000000
set_option maxRecDepth 100000
section
variable {P : Program} {ops : Array Oper} {hp : List HObj} {fr : List Dat} {dst : Option Tmp} {ty : TypeId} {ps : String} {af : Array Edge} {g : Option (Nat × Bool)}
theorem SY.minI {x y : Operand} {m n : Int} {ats : Array TypeId} (hx : OpD fr x (dI m)) (hy : OpD fr y (dI n)) : SY P ops hp { dst := dst, op := .call { callee := .builtin .min, args := #[x, y], argTypes := ats }, type := ty, pos := ps, after := af, guard := g } fr (dI (if n < m then n else m)) :=
  SY.val fun {I w a} ho => ⟨.int .i64 (if n < m then n else m), by
    have h1 : a.eval x = .int .i64 m := hx.get (by simp [Op.operands, Call.operands]) ho
    have h2 : a.eval y = .int .i64 n := hy.get (by simp [Op.operands, Call.operands]) ho
    unfold execOp
    simp [resolve, invoke, builtin, h1, h2, Builtin.min_, Builtin.min2], rfl⟩
theorem SY.maxI {x y : Operand} {m n : Int} {ats : Array TypeId} (hx : OpD fr x (dI m)) (hy : OpD fr y (dI n)) : SY P ops hp { dst := dst, op := .call { callee := .builtin .max, args := #[x, y], argTypes := ats }, type := ty, pos := ps, after := af, guard := g } fr (dI (if m < n then n else m)) :=
  SY.val fun {I w a} ho => ⟨.int .i64 (if m < n then n else m), by
    have h1 : a.eval x = .int .i64 m := hx.get (by simp [Op.operands, Call.operands]) ho
    have h2 : a.eval y = .int .i64 n := hy.get (by simp [Op.operands, Call.operands]) ho
    unfold execOp
    simp [resolve, invoke, builtin, h1, h2, Builtin.max_, Builtin.max2], rfl⟩
end
def leastC (l : Cx) : Int := l.foldl (fun m s => if (s.length : Int) < m then (s.length : Int) else m) 8
def mostC (l : Cx) : Int := l.foldl (fun m s => if m < (s.length : Int) then (s.length : Int) else m) 0
theorem leastC_snoc {l : Cx} {k : Nat} (h : k < l.length) : leastC (l.take (k + 1)) = if (l[k].length : Int) < leastC (l.take k) then (l[k].length : Int) else leastC (l.take k) := by
  unfold leastC; rw [take_snoc' h, List.foldl_append]; rfl
theorem mostC_snoc {l : Cx} {k : Nat} (h : k < l.length) : mostC (l.take (k + 1)) = if mostC (l.take k) < (l[k].length : Int) then (l[k].length : Int) else mostC (l.take k) := by
  unfold mostC; rw [take_snoc' h, List.foldl_append]; rfl
def pureC (l : Cx) : Bool := decide (mostC l = 0) || decide (leastC l = mostC l)
theorem dimension_p (l : Cx) (hs : ∀ s ∈ l, s.length ≤ 1000) : Fn Tryz.prog 83 [dS Cpx l] (dT [dI (mostC l - 1), dB (pureC l)]) := by
  (refine Fn.intro2 Tryz.func83 rfl rfl ?_; simp only [Tryz.ntmps83, List.length_cons, List.length_nil, Nat.reduceAdd, Nat.reduceSub, List.replicate_succ, List.replicate_zero, List.cons_append, List.nil_append])
  ((repeat' (first | (apply WL.opG; (focus (apply SYG.yes; (exact want_none rfl); (first | (apply SY.move <;> (exact oD)) | (apply SY.assign <;> (exact oD)) | (apply SY.load; (exact tD); (exact OpD.t rfl))))); dsimp only [setD, z0, z1]) | refine WL.nil ?_ | refine WC.seqK fun Kx hK => ?_ | (refine hK _ _ ?_; clear hK) | refine WC.region ?_ | (apply WL.opG; (focus (first | (apply SYG.no; first | exact want_notT rfl rfl rfl (by with_reducible rfl) | exact want_notF rfl rfl rfl (by with_reducible rfl)) | (apply SYG.yes; (first | exact want_none rfl | exact want_yes rfl rfl rfl (by with_reducible rfl)); ((first | exact yLen | exact yFieldaddr | exact yBox | fail); all_goals infer_instance)))); dsimp only [setD, z0, z1]) | refine WC.block ?_)); all_goals (first | refine WC.id ?_ | refine WL.id ?_ | refine WDs.id ?_ | ((repeat clear hK); (repeat clear Kx))))
  (first | refine WC.know (t := 0) rfl le_K fun hl0 => ?_ | refine WC.know (t := 0) rfl le_A fun hl0 => ?_ | refine WC.know (t := 0) rfl le_C fun hl0 => ?_); simp only [maxLen] at hl0
  (refine WC.loopU (X := Nat × Int × Int) (fun x => [(11, dI (x.1 : Int)), (4, dI x.2.1), (5, dI x.2.2), (7, dA), (12, dA), (13, dA), (14, dA), (15, dA), (16, dA), (17, dA), (18, dA), (19, dA), (20, dA), (21, dA), (22, dA), (23, dA)]) (fun x => []) (fun x => l.length - x.1) (fun x => x.1 ≤ l.length ∧ x.2.1 = leastC (l.take x.1) ∧ x.2.2 = mostC (l.take x.1) ∧ 0 ≤ x.2.2 ∧ x.2.2 ≤ 1000) (0, 8, 0) ?start ?frame0 ?objs0 ?round)
  case start => exact ⟨Nat.zero_le _, rfl, rfl, by decide, by decide⟩
  case frame0 => ((try dsimp only [upds, z0, z1]); repeat (first | exact LeF.nil | refine LeF.cons (by first | with_reducible exact Dat.le_any _ | with_reducible exact Dat.le_refl _ | exact le_ii (by omega) | exact Dat.le_nil | exact Dat.le_nilK (by decide) | assumption | exact Dat.le_refl _ | exact le_eq (by simp)) ?_))
  case objs0 => rfl
  case round =>
    rintro ⟨k, a, b⟩ ⟨h1, h2, h3, h4, h5⟩
    simp only at h1 h2 h3 h4 h5
    dsimp only [upds, z0, z1]
    ((repeat' (first | (apply WL.opG; (focus (apply SYG.yes; (exact want_none rfl); (first | (apply SY.move <;> (exact oD)) | (apply SY.assign <;> (exact oD)) | (apply SY.load; (exact tD); (exact OpD.t rfl))))); dsimp only [setD, z0, z1]) | refine WL.nil ?_ | refine WC.seqK fun Kx hK => ?_ | (refine hK _ _ ?_; clear hK) | (refine Kont.skip ?_; clear hK) | refine WC.region ?_ | (apply WL.opG; (focus (first | (apply SYG.no; first | exact want_notT rfl rfl rfl (by with_reducible rfl) | exact want_notF rfl rfl rfl (by with_reducible rfl)) | (apply SYG.yes; (first | exact want_none rfl | exact want_yes rfl rfl rfl (by with_reducible rfl)); ((first | (apply SY.minI; exact OpD.t rfl; exact OpD.t rfl) | (apply SY.maxI; exact OpD.t rfl; exact OpD.t rfl) | exact yMove | exact yLss | exact yEql | exact yAdd | exact ySub | exact yLen | exact yIndexaddr | exact yPick | fail); all_goals infer_instance)))); dsimp only [setD, z0, z1]) | ((first | refine WL.caseP rfl rfl rfl (fun h => ?_) (fun h => ?_) | refine WL.caseN rfl rfl rfl (fun h => ?_) (fun h => ?_) | refine WL.caseB rfl rfl rfl (fun h => ?_) (fun h => ?_)) <;> (first | (exfalso; first | omega | contradiction) | (dsimp only [z0, z1]))) | (apply WC.condD; (exact oD); (all_goals intro h); (all_goals try (exfalso; first | omega | contradiction))) | refine WC.skip ?_ | refine WC.ret ?_ | refine WC.exit ?_ | refine WC.block ?_ | refine ThenD.n ?_)); all_goals (first | refine WC.id ?_ | refine WL.id ?_ | refine WDs.id ?_ | ((repeat clear hK); (repeat clear Kx))))
    · (refine ⟨(k + 1, if (l[k].length : Int) < a then (l[k].length : Int) else a, if b < (l[k].length : Int) then (l[k].length : Int) else b), ?_, by first | omega | (simp only; omega), rfl, ?_⟩; rotate_left; ((try dsimp only [upds, z0, z1]); repeat (first | exact LeF.nil | refine LeF.cons (by first | with_reducible exact Dat.le_any _ | with_reducible exact Dat.le_refl _ | exact le_ii (by omega) | exact Dat.le_nil | exact Dat.le_nilK (by decide) | assumption | exact Dat.le_refl _ | exact le_eq (by simp)) ?_)); (try dsimp only))
      have h9 := hs _ (List.getElem_mem (show k < l.length by omega))
      refine ⟨by omega, ?_, ?_, ?_, ?_⟩
      · rw [leastC_snoc (by omega), ← h2]
      · rw [mostC_snoc (by omega), ← h3]
      · split <;> omega
      · split <;> omega
    all_goals rw [List.take_of_length_le (by omega)] at h2 h3
    · have e : pureC l = true := by unfold pureC; rw [← h3, decide_eq_true h]; rfl
      rw [e, ← h3]
      (refine ⟨trivial, ⟨_, rfl, ?_⟩, _, rfl, ?_⟩ <;> (first | exact fD | refine FinD.i ?_ | refine FinD.b ?_ | refine FinD.rowKE (.head _) ?_ | refine FinD.rowE (.head _) ?_ | refine FinD.nilKE (by decide) ?_ | refine FinD.nilE ?_ | refine FinD.s ?_))
    · have e : pureC l = decide (a = b) := by unfold pureC; rw [← h3, ← h2, decide_eq_false h]; rfl
      rw [e, ← h3]
      (refine ⟨trivial, ⟨_, rfl, ?_⟩, _, rfl, ?_⟩ <;> (first | exact fD | refine FinD.i ?_ | refine FinD.b ?_ | refine FinD.rowKE (.head _) ?_ | refine FinD.rowE (.head _) ?_ | refine FinD.nilKE (by decide) ?_ | refine FinD.nilE ?_ | refine FinD.s ?_))
end Go.Proofs.YtkedmlandjlogaaGreat
namespace Go.Proofs.YtkedmlandjlogaaGreat
open Go.RowKit
set_option linter.unusedSimpArgs false

set_option maxHeartbeats 2000000
set_option maxRecDepth 100000
abbrev VxOf (S : Vx → Prop) := {v : Vx // S v}
abbrev dPredW (S : Vx → Prop) (p : Vx → Bool) : Dat := dFun Tryz.prog (fun v : VxOf S => [dS RV v.1]) (fun v => dB (p v.1))
set_option maxHeartbeats 1000000 in
theorem filterV_p (S : Vx → Prop) (s : List Vx) (p : Vx → Bool) (hS : ∀ v ∈ s, S v) (hl : s.length ≤ 1000) : Fn Tryz.prog 149 [dS Verts s, dPredW S p] (dS Verts (s.filter p)) := by
  (refine Fn.intro1 Tryz.func149 rfl rfl ?_; simp only [Tryz.ntmps149, List.length_cons, List.length_nil, Nat.reduceAdd, Nat.reduceSub, List.replicate_succ, List.replicate_zero, List.cons_append, List.nil_append])
  ((repeat' (first | (apply WL.opG; (focus (apply SYG.yes; (exact want_none rfl); (first | (apply SY.move <;> (exact oD)) | (apply SY.assign <;> (exact oD)) | (apply SY.load; (exact tD); (exact OpD.t rfl))))); dsimp only [setD, z0, z1]) | refine WL.nil ?_ | refine WC.seqK fun Kx hK => ?_ | (refine hK _ _ ?_; clear hK) | refine WC.region ?_ | (apply WL.opG; (focus (apply SYG.yes; (exact want_none rfl); ((first | exact yLen | fail); all_goals infer_instance))); dsimp only [setD, z0, z1]) | refine WC.block ?_)); all_goals (first | refine WC.id ?_ | refine WL.id ?_ | refine WDs.id ?_ | ((repeat clear hK); (repeat clear Kx))))
  refine WC.nilRowK 37 2 (by decide) RV ?_
  (refine WC.loopU (X := Nat × Value) (fun x => [(5, dX x.2), (10, dI (x.1 : Int)), (7, dA), (11, dA), (12, dA), (13, dA), (14, dA), (15, dA), (16, dA), (17, dA), (18, dA), (19, dA), (20, dA), (21, dA)]) (fun x => [hRowK x.2 37 2 RV ((s.take x.1).filter p)]) (fun x => s.length - x.1) (fun x => x.1 ≤ s.length) (0, .slice none 0 0) ?start ?frame0 ?objs0 ?round)
  case start => simp
  case frame0 => ((try dsimp only [upds, z0, z1]); repeat (first | exact LeF.nil | refine LeF.cons (by first | with_reducible exact Dat.le_any _ | with_reducible exact Dat.le_refl _ | exact le_ii (by omega) | exact Dat.le_nil | exact Dat.le_nilK (by decide) | assumption | exact Dat.le_refl _ | exact le_eq (by simp)) ?_))
  case objs0 => rfl
  case round =>
    rintro ⟨k, u⟩ h1
    dsimp only [upds, z0, z1]
    simp only at h1
    have h2 : ((s.take k).filter p).length ≤ 1000 := Nat.le_trans (List.length_filter_le _ _) (Nat.le_trans (List.length_take_le _ _) (by omega))
    ((repeat' (first | (apply WL.opG; (focus (apply SYG.yes; (exact want_none rfl); (first | (apply SY.move <;> (exact oD)) | (apply SY.assign <;> (exact oD)) | (apply SY.load; (exact tD); (exact OpD.t rfl))))); dsimp only [setD, z0, z1]) | refine WL.nil ?_ | refine WC.seqK fun Kx hK => ?_ | (refine hK _ _ ?_; clear hK) | (refine Kont.skip ?_; clear hK) | refine WC.region ?_ | ((first | apply WL.pushK | apply WL.push1); (exact eD); exact OpD.t rfl; (exact oD); (intro _; first | exact shape_V | exact shape_I | exact shape_B | exact shape_A | exact shape_K); (exact (by simp)); (exact (by simp)); (first | exact ⟨by decide, by decide⟩ | skip); decide; (exact lD); (intro _; dsimp only [setD, z0, z1]); all_goals (try infer_instance)) | (apply WL.alloc; (first | exact tzV | exact tzC); (first | exact shape_X rfl | exact shape_XV | exact shape_C0 rfl); (intro _; dsimp only [setD, z0, z1])) | (apply WL.storeF; (exact tD); rfl; (exact oD); (exact hD); dsimp only [setD, z0, z1]) | (apply WL.opG; (focus (apply SYG.yes; (exact want_none rfl); ((first | (apply SY.dynF (x := (⟨s[k], hS _ (List.getElem_mem _)⟩ : VxOf S)); (exact OpD.t rfl); (exact aD)) | exact yLss | exact yAdd | exact yIndexaddr | fail); all_goals infer_instance))); dsimp only [setD, z0, z1]) | (apply WC.condD; (exact oD); (all_goals intro h); (all_goals try (exfalso; first | omega | contradiction))) | (apply WC.cond; (exact oD); (all_goals intro h); (all_goals try (exfalso; first | omega | contradiction))) | refine WC.skip ?_ | refine WC.ret ?_ | refine WC.exit ?_ | refine WC.block ?_ | refine ThenD.n ?_)); all_goals (first | refine WC.id ?_ | refine WL.id ?_ | refine WDs.id ?_ | ((repeat clear hK); (repeat clear Kx))))
    · (refine ⟨(k + 1, _) , ?_, by first | omega | (simp only; omega), by ((try simp only);  (rw [filter_snoc (by omega), if_pos h])), ?_⟩; rotate_left; ((try dsimp only [upds, z0, z1]); repeat (first | exact LeF.nil | refine LeF.cons (by first | with_reducible exact Dat.le_any _ | with_reducible exact Dat.le_refl _ | exact le_ii (by omega) | exact Dat.le_nil | exact Dat.le_nilK (by decide) | assumption | exact Dat.le_refl _ | exact le_eq (by simp)) ?_)); (try dsimp only))
      omega
    · (refine ⟨(k + 1, _) , ?_, by first | omega | (simp only; omega), by ((try simp only);  (rw [filter_snoc (by omega), if_neg (by simp [h]), List.append_nil])), ?_⟩; rotate_left; ((try dsimp only [upds, z0, z1]); repeat (first | exact LeF.nil | refine LeF.cons (by first | with_reducible exact Dat.le_any _ | with_reducible exact Dat.le_refl _ | exact le_ii (by omega) | exact Dat.le_nil | exact Dat.le_nilK (by decide) | assumption | exact Dat.le_refl _ | exact le_eq (by simp)) ?_)); (try dsimp only))
      omega
    · (refine ⟨trivial, _, rfl, ?_⟩; (first | exact fD | refine FinD.i ?_ | refine FinD.b ?_ | refine FinD.rowKE (.head _) ?_ | refine FinD.rowE (.head _) ?_ | refine FinD.nilKE (by decide) ?_ | refine FinD.nilE ?_ | refine FinD.s ?_))
      rw [List.take_of_length_le (by omega)]
def eachC (p : Vx → Bool) (l : Cx) : Cx := (l.map fun s => s.filter p).filter fun s => decide (0 < s.length)
theorem eachC_snoc {p : Vx → Bool} {l : Cx} {k : Nat} (h : k < l.length) : eachC p (l.take (k + 1)) = eachC p (l.take k) ++ (if 0 < (l[k].filter p).length then [l[k].filter p] else []) := by
  unfold eachC
  rw [take_snoc' h, List.map_append, List.filter_append]
  by_cases hp : 0 < (l[k].filter p).length
  · rw [if_pos hp]; simp only [List.map_cons, List.map_nil]; rw [List.filter_cons_of_pos (by simpa using hp)]; rfl
  · rw [if_neg hp]; simp only [List.map_cons, List.map_nil]; rw [List.filter_cons_of_neg (by simpa using hp)]; rfl
theorem each_p (S : Vx → Prop) (l : Cx) (p : Vx → Bool) (hS : ∀ s ∈ l, ∀ v ∈ s, S v) (hs : ∀ s ∈ l, s.length ≤ 1000) (hl : l.length ≤ 1000000) : Fn Tryz.prog 87 [dS Simps l, dPredW S p] (dS Simps (eachC p l)) := by
  (refine Fn.intro1 Tryz.func87 rfl rfl ?_; simp only [Tryz.ntmps87, List.length_cons, List.length_nil, Nat.reduceAdd, Nat.reduceSub, List.replicate_succ, List.replicate_zero, List.cons_append, List.nil_append])
  ((repeat' (first | (apply WL.opG; (focus (apply SYG.yes; (exact want_none rfl); (first | (apply SY.move <;> (exact oD)) | (apply SY.assign <;> (exact oD)) | (apply SY.load; (exact tD); (exact OpD.t rfl))))); dsimp only [setD, z0, z1]) | refine WL.nil ?_ | refine WC.seqK fun Kx hK => ?_ | (refine hK _ _ ?_; clear hK) | refine WC.region ?_ | (apply WL.opG; (focus (apply SYG.yes; (exact want_none rfl); ((first | exact yLen | fail); all_goals infer_instance))); dsimp only [setD, z0, z1]) | refine WC.block ?_)); all_goals (first | refine WC.id ?_ | refine WL.id ?_ | refine WDs.id ?_ | ((repeat clear hK); (repeat clear Kx))))
  refine WC.nilRow 32 Verts ?_
  (refine WC.loopU (X := Nat × Value × Cx) (fun x => [(5, dX x.2.1), (11, dI (x.1 : Int)), (7, dA), (8, dA), (12, dA), (13, dA), (14, dA), (15, dA), (16, dA), (17, dA), (18, dA), (19, dA), (20, dA), (21, dA), (22, dA), (23, dA), (24, dA), (25, dA)]) (fun x => [hRow x.2.1 32 Verts x.2.2]) (fun x => l.length - x.1) (fun x => x.1 ≤ l.length ∧ x.2.2 = eachC p (l.take x.1)) (0, .slice none 0 0, []) ?start ?frame0 ?objs0 ?round)
  case start => exact ⟨Nat.zero_le _, by simp [eachC]⟩
  case frame0 => ((try dsimp only [upds, z0, z1]); repeat (first | exact LeF.nil | refine LeF.cons (by first | with_reducible exact Dat.le_any _ | with_reducible exact Dat.le_refl _ | exact le_ii (by omega) | exact Dat.le_nil | exact Dat.le_nilK (by decide) | assumption | exact Dat.le_refl _ | exact le_eq (by simp)) ?_))
  case objs0 => rfl
  case round =>
    rintro ⟨k, u, o⟩ ⟨h1, h2⟩
    dsimp only [upds, z0, z1]
    simp only at h1 h2
    have hol : o.length ≤ 1000000 := by
      have h5 := List.length_filter_le (fun s : List Vx => decide (0 < s.length)) ((l.take k).map fun s => s.filter p)
      rw [List.length_map, List.length_take] at h5
      rw [h2]; unfold eachC; omega
    ((repeat' (first | (apply WL.opG; (focus (apply SYG.yes; (exact want_none rfl); (first | (apply SY.move <;> (exact oD)) | (apply SY.assign <;> (exact oD)) | (apply SY.load; (exact tD); (exact OpD.t rfl))))); dsimp only [setD, z0, z1]) | refine WL.nil ?_ | refine WC.seqK fun Kx hK => ?_ | (refine hK _ _ ?_; clear hK) | (refine Kont.skip ?_; clear hK) | refine WC.region ?_ | ((first | apply WL.pushK | apply WL.push1); (exact eD); exact OpD.t rfl; (exact oD); (intro _; first | exact shape_V | exact shape_I | exact shape_B | exact shape_A | exact shape_K); (exact (by simp)); (exact (by simp)); (first | exact ⟨by decide, by decide⟩ | skip); decide; (exact lD); (intro _; dsimp only [setD, z0, z1]); all_goals (try infer_instance)) | (apply WL.opG; (focus (apply SYG.yes; (exact want_none rfl); ((first | (apply SY.call (filterV_p S _ p (hS _ (List.getElem_mem _)) (hs _ (List.getElem_mem _))) Tryz.call149; (exact aD)) | exact yLss | exact yGtr | exact yAdd | exact yLen | exact yIndexaddr | fail); all_goals infer_instance))); dsimp only [setD, z0, z1]) | (apply WC.condD; (exact oD); (all_goals intro h); (all_goals try (exfalso; first | omega | contradiction))) | refine WC.skip ?_ | refine WC.ret ?_ | refine WC.exit ?_ | refine WC.block ?_ | refine ThenD.n ?_)); all_goals (first | refine WC.id ?_ | refine WL.id ?_ | refine WDs.id ?_ | ((repeat clear hK); (repeat clear Kx))))
    · (refine ⟨(k + 1, _, o ++ [l[k].filter p]), ?_, by first | omega | (simp only; omega), rfl, ?_⟩; rotate_left; ((try dsimp only [upds, z0, z1]); repeat (first | exact LeF.nil | refine LeF.cons (by first | with_reducible exact Dat.le_any _ | with_reducible exact Dat.le_refl _ | exact le_ii (by omega) | exact Dat.le_nil | exact Dat.le_nilK (by decide) | assumption | exact Dat.le_refl _ | exact le_eq (by simp)) ?_)); (try dsimp only))
      refine ⟨by omega, ?_⟩
      show o ++ _ = _
      rw [eachC_snoc (by omega), if_pos (by omega), ← h2]
    · (refine ⟨(k + 1, u, o), ?_, by first | omega | (simp only; omega), rfl, ?_⟩; rotate_left; ((try dsimp only [upds, z0, z1]); repeat (first | exact LeF.nil | refine LeF.cons (by first | with_reducible exact Dat.le_any _ | with_reducible exact Dat.le_refl _ | exact le_ii (by omega) | exact Dat.le_nil | exact Dat.le_nilK (by decide) | assumption | exact Dat.le_refl _ | exact le_eq (by simp)) ?_)); (try dsimp only))
      refine ⟨by omega, ?_⟩
      show o = _
      rw [eachC_snoc (by omega), if_neg (by omega), List.append_nil, ← h2]
    · rw [List.take_of_length_le (by omega)] at h2
      subst h2
      (refine ⟨trivial, _, rfl, ?_⟩; (first | exact fD | refine FinD.i ?_ | refine FinD.b ?_ | refine FinD.rowKE (.head _) ?_ | refine FinD.rowE (.head _) ?_ | refine FinD.nilKE (by decide) ?_ | refine FinD.nilE ?_ | refine FinD.s ?_))
end Go.Proofs.YtkedmlandjlogaaGreat
namespace Go.Proofs.YtkedmlandjlogaaGreat
open Go.RowKit
set_option linter.unusedSimpArgs false

set_option maxHeartbeats 2000000
set_option maxRecDepth 100000
def stepA (k : Nat) (out : Cx) (f : List Vx) : Cx := if f.length < k then out else (subsV k f).foldl putC out
theorem allC_eq (c : Cx) (k : Nat) : allC c k = c.foldl (stepA k) [] := rfl
theorem allC_snoc {l : Cx} {k i : Nat} (h : i < l.length) : allC (l.take (i + 1)) k = stepA k (allC (l.take i) k) l[i] := by
  rw [allC_eq, allC_eq, take_snoc' h, List.foldl_append]; rfl
theorem stepA_len {k : Nat} {out : Cx} {f : List Vx} (h : f.length ≤ 8) : (stepA k out f).length ≤ out.length + 256 := by
  unfold stepA
  split
  · omega
  · have h1 := foldPut_len (subsV k f) out
    have h2 := Nat.le_trans (subsV_len k f) (Nat.pow_le_pow_right (by decide) h : 2 ^ f.length ≤ 2 ^ 8)
    omega
theorem allC_len : ∀ (l : Cx) (k i : Nat), (∀ f ∈ l, f.length ≤ 8) → i ≤ l.length → (allC (l.take i) k).length ≤ 256 * i
  | l, k, 0, _, _ => by simp [allC]
  | l, k, i + 1, h, hi => by
    rw [allC_snoc (by omega)]
    have h1 := stepA_len (k := k) (out := allC (l.take i) k) (h _ (List.getElem_mem (show i < l.length by omega)))
    have h2 := allC_len l k i h (by omega)
    omega
def simplC (l : Cx) (k : Int) : Cx × Int := if chkC l ≠ 0 then ([], chkC l) else if k < 1 ∨ 8 < k then ([], 2) else if 4096 < (allC l k.toNat).length then ([], 17) else (allC l k.toNat, 0)
theorem tmod2 (k : Nat) : ((k : Int) + 1).tmod 2 = (((k + 1) % 2 : Nat) : Int) := by rw [Int.tmod_eq_emod_of_nonneg (by omega)]; omega
def eulS (l : Cx) : Nat → Int
  | 0 => 0
  | k + 1 => if (k + 1) % 2 = 1 then eulS l k + (allC l (k + 1)).length else eulS l k - (allC l (k + 1)).length
def eulC (l : Cx) : Int × Int := if chkC l ≠ 0 then (0, chkC l) else if (List.range 8).any (fun k => decide (4096 < (allC l (k + 1)).length)) = true then (0, 17) else (eulS l 8, 0)
theorem eulS_le (l : Cx) (h : ∀ k, (allC l k).length ≤ 2000000) : ∀ k, eulS l k ≤ 2000000 * k ∧ -(2000000 * (k : Int)) ≤ eulS l k
  | 0 => by simp [eulS]
  | k + 1 => by
    have h1 := eulS_le l h k
    have h2 := h (k + 1)
    unfold eulS
    split <;> omega
end Go.Proofs.YtkedmlandjlogaaGreat
namespace Go.Proofs.YtkedmlandjlogaaGreat
open Go.RowKit
set_option linter.unusedSimpArgs false

set_option maxHeartbeats 2000000
set_option maxRecDepth 100000
def starC (l : Cx) (s : List Vx) : Cx × Int := if placeC l s ≠ 0 then ([], placeC l s) else (aroundC l s, 0)
def linkC (l : Cx) (s : List Vx) : Cx × Int := if placeC l s ≠ 0 then ([], placeC l s) else (maxC ((aroundC l s).map fun f => sharedV f s false), 0)
end Go.Proofs.YtkedmlandjlogaaGreat
namespace Go.Proofs.YtkedmlandjlogaaGreat
open Go.RowKit
set_option linter.unusedSimpArgs false

set_option maxHeartbeats 2000000
set_option maxRecDepth 100000
theorem dimC_le {l : Cx} (h : ∀ s ∈ l, s.length ≤ 8) : -1 ≤ dimC l ∧ dimC l ≤ 7 := by
  have go : ∀ (l : Cx) (m : Int), -1 ≤ m → m ≤ 7 → (∀ s ∈ l, s.length ≤ 8) → -1 ≤ l.foldl (fun m s => if m < (s.length : Int) - 1 then (s.length : Int) - 1 else m) m ∧ l.foldl (fun m s => if m < (s.length : Int) - 1 then (s.length : Int) - 1 else m) m ≤ 7 := by
    intro l
    induction l with
    | nil => intro m h1 h2 _; exact ⟨h1, h2⟩
    | cons s l ih =>
      intro m h1 h2 h
      have := h s (by simp)
      refine ih _ ?_ ?_ fun t ht => h t (by simp [ht])
      · dsimp only; split <;> omega
      · dsimp only; split <;> omega
  exact go l (-1) (by decide) (by decide) h
def oneC (l : Cx) (f : List Vx) : Bool := decide ((aroundC l f).length = 1)
def okC (l : Cx) (f : List Vx) : Bool := decide ((aroundC l f).length = 1) || decide ((aroundC l f).length = 2)
end Go.Proofs.YtkedmlandjlogaaGreat
namespace Go.Proofs.YtkedmlandjlogaaGreat
theorem good_sub {l l' : Cx} (h : GoodX l) (hs : l'.Sublist l) : GoodX l' := by
  refine ⟨Nat.le_trans hs.length_le h.1, List.Pairwise.sublist hs h.2.1, fun s hm => h.2.2.1 s (hs.subset hm), fun s hm => ?_⟩
  rw [Bool.eq_false_iff]
  intro hc
  obtain ⟨x, hx, hr⟩ := coveredC_iff.1 hc
  have := coveredC_iff.2 ⟨x, hs.subset hx, hr⟩
  rw [h.2.2.2 s (hs.subset hm)] at this
  cases this
theorem GoodX.asc {l : Cx} (h : GoodX l) : ∀ s ∈ l, Asc s := fun s hs => (chkV_zero.1 (h.2.2.1 s hs)).2.2.2
theorem around_eq {l : Cx} {s : List Vx} (h : ∀ f ∈ l, Asc f) (hs : Asc s) : l.filter (faceG s) = aroundC l s := List.filter_congr fun f hf => faceG_inside s f hs (h f hf)
theorem around_good {l : Cx} {s : List Vx} (h : GoodX l) : GoodX (aroundC l s) := good_sub h List.filter_sublist
theorem has_around {l : Cx} {s : List Vx} : hasC' l s = decide (0 < (aroundC l s).length) := by
  unfold hasC' aroundC
  rw [Bool.eq_iff_iff, List.any_eq_true, decide_eq_true_eq, List.length_pos_iff_exists_mem]
  constructor
  · rintro ⟨x, hx, h⟩; exact ⟨x, List.mem_filter.2 ⟨hx, h⟩⟩
  · rintro ⟨x, h⟩; exact ⟨x, (List.mem_filter.1 h).1, (List.mem_filter.1 h).2⟩
theorem max_ext {l l' : Cx} (h : ∀ x, x.length ≠ 0 → (x ∈ l ↔ x ∈ l')) : maxC l = maxC l' := by
  refine ascL_ext (maxC_asc l) (maxC_asc l') fun x => ?_
  rw [maxC_mem, maxC_mem]
  have hcov : ∀ {a b : Cx}, (∀ x, x.length ≠ 0 → x ∈ a → x ∈ b) → coveredC a x = true → coveredC b x = true := fun hab hc => by
    obtain ⟨y, hy, hl, hi⟩ := coveredC_iff.1 hc
    exact coveredC_iff.2 ⟨y, hab y (by omega) hy, hl, hi⟩
  have he : coveredC l x = coveredC l' x := by
    rw [Bool.eq_iff_iff]
    exact ⟨hcov fun x hx => (h x hx).1, hcov fun x hx => (h x hx).2⟩
  unfold topC
  rw [he]
  by_cases hx : x.length = 0
  · simp [hx]
  · rw [h x hx]
theorem max_ne (l : Cx) : maxC (l.filter fun s => decide (0 < s.length)) = maxC l := max_ext fun x hx => by
  rw [List.mem_filter]
  simp; omega
theorem max_each (p : Vx → Bool) (l : Cx) : maxC (eachC p l) = maxC (l.map fun s => s.filter p) := max_ne _
theorem each_good {p : Vx → Bool} {l : Cx} (h : ∀ s ∈ l, chkV s = 0) : ∀ s ∈ eachC p l, chkV s = 0 := fun s hs => by
  unfold eachC at hs
  obtain ⟨h1, h2⟩ := List.mem_filter.1 hs
  obtain ⟨f, hf, rfl⟩ := List.mem_map.1 h1
  exact sub_good (h f hf) List.filter_sublist (ne_nil (by simpa using h2))
theorem most_dim (l : Cx) : mostC l - 1 = dimC l := by
  have go : ∀ (l : Cx) (m : Int), l.foldl (fun m s => if m < (s.length : Int) then (s.length : Int) else m) m - 1 = l.foldl (fun m s => if m < (s.length : Int) - 1 then (s.length : Int) - 1 else m) (m - 1) := by
    intro l
    induction l with
    | nil => intro m; rfl
    | cons s l ih =>
      intro m
      rw [List.foldl_cons, List.foldl_cons, ih]
      congr 1
      split <;> split <;> omega
  exact go l 0
theorem most_max (l : Cx) : (∀ s ∈ l, (s.length : Int) ≤ mostC l) ∧ (mostC l = 0 ∨ ∃ s ∈ l, mostC l = s.length) := by
  have go : ∀ (l : Cx) (m : Int), m ≤ l.foldl (fun m s => if m < (s.length : Int) then (s.length : Int) else m) m ∧ (∀ s ∈ l, (s.length : Int) ≤ l.foldl (fun m s => if m < (s.length : Int) then (s.length : Int) else m) m) ∧
      (l.foldl (fun m s => if m < (s.length : Int) then (s.length : Int) else m) m = m ∨ ∃ s ∈ l, l.foldl (fun m s => if m < (s.length : Int) then (s.length : Int) else m) m = s.length) := by
    intro l
    induction l with
    | nil => intro m; simp
    | cons s l ih =>
      intro m
      rw [List.foldl_cons]
      obtain ⟨h1, h2, h3⟩ := ih (if m < (s.length : Int) then (s.length : Int) else m)
      refine ⟨by split at h1 <;> split <;> omega, fun x hx => ?_, ?_⟩
      · rcases List.mem_cons.1 hx with rfl | hx
        · split at h1 <;> split <;> omega
        · exact h2 x hx
      · rcases h3 with h3 | ⟨x, hx, h3⟩
        · rw [h3]
          split
          · exact .inr ⟨s, by simp, rfl⟩
          · exact .inl rfl
        · exact .inr ⟨x, by simp [hx], h3⟩
  exact ⟨(go l 0).2.1, (go l 0).2.2⟩
theorem least_min (l : Cx) : (∀ s ∈ l, leastC l ≤ (s.length : Int)) ∧ (leastC l = 8 ∨ ∃ s ∈ l, leastC l = s.length) := by
  have go : ∀ (l : Cx) (m : Int), l.foldl (fun m s => if (s.length : Int) < m then (s.length : Int) else m) m ≤ m ∧ (∀ s ∈ l, l.foldl (fun m s => if (s.length : Int) < m then (s.length : Int) else m) m ≤ (s.length : Int)) ∧
      (l.foldl (fun m s => if (s.length : Int) < m then (s.length : Int) else m) m = m ∨ ∃ s ∈ l, l.foldl (fun m s => if (s.length : Int) < m then (s.length : Int) else m) m = s.length) := by
    intro l
    induction l with
    | nil => intro m; simp
    | cons s l ih =>
      intro m
      rw [List.foldl_cons]
      obtain ⟨h1, h2, h3⟩ := ih (if (s.length : Int) < m then (s.length : Int) else m)
      refine ⟨by split at h1 <;> split <;> omega, fun x hx => ?_, ?_⟩
      · rcases List.mem_cons.1 hx with rfl | hx
        · split at h1 <;> split <;> omega
        · exact h2 x hx
      · rcases h3 with h3 | ⟨x, hx, h3⟩
        · rw [h3]
          split
          · exact .inr ⟨s, by simp, rfl⟩
          · exact .inl rfl
        · exact .inr ⟨x, by simp [hx], h3⟩
  exact ⟨(go l 8).2.1, (go l 8).2.2⟩
theorem pureC_iff {l : Cx} (h8 : ∀ s ∈ l, s.length ≠ 0 ∧ s.length ≤ 8) : pureC l = true ↔ ∀ s ∈ l, ∀ t ∈ l, s.length = t.length := by
  obtain ⟨m1, m2⟩ := most_max l
  obtain ⟨n1, n2⟩ := least_min l
  unfold pureC
  simp only [Bool.or_eq_true, decide_eq_true_eq]
  constructor
  · rintro (h | h) s hs t ht
    · have := m1 s hs; have := h8 s hs; omega
    · have := m1 s hs; have := m1 t ht; have := n1 s hs; have := n1 t ht; omega
  · intro h
    rcases m2 with m2 | ⟨s, hs, m2⟩
    · exact .inl m2
    · right
      rcases n2 with n2 | ⟨t, ht, n2⟩
      · have := n1 s hs; have := h8 s hs; omega
      · rw [m2, n2, h s hs t ht]
theorem sizeP_iff {l : Cx} : sizeP l = true ↔ ∀ s ∈ l, ∀ t ∈ l, s.length = t.length := by
  unfold sizeP
  rw [List.all_eq_true]
  simp only [List.mem_range, Bool.or_eq_true, decide_eq_true_eq]
  constructor
  · intro h
    have key : ∀ n, n ≤ l.length → 0 < n → ∀ (h0 : 0 < l.length), dimC (l.take n) = (l[0].length : Int) - 1 ∧ ∀ (i : Nat) (hi : i < l.length), i < n → l[i].length = l[0].length := by
      intro n
      induction n with
      | zero => intro _ h; omega
      | succ n ih =>
        intro hn _ h0
        by_cases hz : n = 0
        · subst hz
          refine ⟨?_, fun i hi hi1 => ?_⟩
          · rw [dimC_snoc (by omega)]
            simp [dimC]; omega
          · have : i = 0 := by omega
            subst this; rfl
        · obtain ⟨h1, h2⟩ := ih (by omega) (by omega) h0
          have h3 := h n (by omega)
          rcases h3 with h3 | h3
          · omega
          · rw [getD_at (by omega), h1] at h3
            refine ⟨?_, fun i hi hi1 => ?_⟩
            · rw [dimC_snoc (by omega), h1, h3, if_neg (by omega)]
            · by_cases hin : i = n
              · subst hin; omega
              · exact h2 i hi (by omega)
    intro s hs t ht
    obtain ⟨i, hi, rfl⟩ := List.getElem_of_mem hs
    obtain ⟨j, hj, rfl⟩ := List.getElem_of_mem ht
    obtain ⟨_, h2⟩ := key l.length (Nat.le_refl _) (by omega) (by omega)
    rw [h2 i hi hi, h2 j hj hj]
  · intro h i hi
    by_cases hz : i = 0
    · exact .inl hz
    · right
      rw [getD_at hi, ← most_dim]
      obtain ⟨m1, m2⟩ := most_max (l.take i)
      have h0 : l[0]'(by omega) ∈ l.take i := by rw [List.mem_take_iff_getElem]; exact ⟨0, by omega, rfl⟩
      rcases m2 with m2 | ⟨t, ht, m2⟩
      · have h1 := m1 _ h0
        have h2 := h l[i] (List.getElem_mem hi) (l[0]'(by omega)) (List.getElem_mem _)
        rw [m2]; omega
      · have h2 := h l[i] (List.getElem_mem hi) t (List.mem_of_mem_take ht)
        rw [m2, h2]
theorem pure_size {l : Cx} (h : ∀ s ∈ l, chkV s = 0) : pureC l = sizeP l := by
  rw [Bool.eq_iff_iff, pureC_iff (fun s hs => by have := chkV_zero.1 (h s hs); omega), sizeP_iff]
end Go.Proofs.YtkedmlandjlogaaGreat
