/-
  Part 11 of the texts that the claims of this seat lean on: walks of the program's functions by contracts over symbolic frames, and plain laws of what they compute. No condition.
-/
import Derived.Ground.NamesProg
import Derived.Ground.SlsfProg
import Derived.Shelf.SlSortCmp.NoneTotal
import Derived.Shelf.SlSortCmp.Whole1
import Derived.Test.YtkedmlandjlogaaGreatProg
import Derived.Test.YtkedmlandjlogaaGreatVd6
import Derived.Test.YtkedmlandjlogaaGreatVd8
import Derived.Test.YtkedmlandjlogaaGreatVd9
import Derived.Test.YtkedmlandjlogaaGreatVd10
set_option linter.unusedVariables false
set_option linter.unusedSimpArgs false
set_option linter.unusedSectionVars false
namespace Go.Proofs.YtkedmlandjlogaaGreat
open Go.RowKit
set_option maxHeartbeats 2000000

set_option maxHeartbeats 4000000 in
theorem cmpF_p (a b : List Vx) : Fn Tryz.prog 155 [dS Verts a, dS Verts b, dFun Tryz.prog (fun x : Vx × Vx => [dS RV x.1, dS RV x.2]) (fun x => dI (cmpV x.1 x.2))] (dI (cmpL a b)) := by
  (refine Fn.intro1 Tryz.func155 rfl rfl ?_; simp only [Tryz.ntmps155, List.length_cons, List.length_nil, Nat.reduceAdd, Nat.reduceSub, List.replicate_succ, List.replicate_zero, List.cons_append, List.nil_append])
  ((repeat' (first | (apply WL.opG; (focus (apply SYG.yes; (exact want_none rfl); (first | (apply SY.move <;> (exact oD)) | (apply SY.assign <;> (exact oD)) | (apply SY.load; (exact tD); (exact OpD.t rfl))))); dsimp only [setD, z0, z1]) | refine WL.nil ?_ | refine WC.seqK fun Kx hK => ?_ | (refine hK _ _ ?_; clear hK) | refine WC.region ?_ | (apply WL.opG; (focus (apply SYG.yes; (exact want_none rfl); ((first | exact yLen | fail); all_goals infer_instance))); dsimp only [setD, z0, z1]) | refine WC.block ?_)); all_goals (first | refine WC.id ?_ | refine WL.id ?_ | refine WDs.id ?_ | ((repeat clear hK); (repeat clear Kx))))
  (first | refine WC.know (t := 0) rfl le_K fun hl0 => ?_ | refine WC.know (t := 0) rfl le_A fun hl0 => ?_ | refine WC.know (t := 0) rfl le_C fun hl0 => ?_); simp only [maxLen] at hl0
  (first | refine WC.know (t := 1) rfl le_K fun hl1 => ?_ | refine WC.know (t := 1) rfl le_A fun hl1 => ?_ | refine WC.know (t := 1) rfl le_C fun hl1 => ?_); simp only [maxLen] at hl1
  (refine WC.loopU (X := Nat) (fun k => [(13, dI (k : Int)), (6, dA), (7, dA), (8, dA), (9, dA), (10, dA), (14, dA), (15, dA), (16, dA), (17, dA), (18, dA), (19, dA), (20, dA), (21, dA), (22, dA), (23, dA), (24, dA), (25, dA), (26, dA), (27, dA), (28, dA), (29, dA), (30, dA), (31, dA), (32, dA), (33, dA)]) (fun k => []) (fun k => a.length - k) (fun k => k ≤ a.length ∧ k ≤ b.length ∧ cmpL a b = cmpL (a.drop k) (b.drop k)) 0 ?start ?frame0 ?objs0 ?round)
  case start => exact ⟨Nat.zero_le _, Nat.zero_le _, rfl⟩
  case frame0 => ((try dsimp only [upds, z0, z1]); repeat (first | exact LeF.nil | refine LeF.cons (by first | with_reducible exact Dat.le_any _ | with_reducible exact Dat.le_refl _ | exact le_ii (by omega) | exact Dat.le_nil | exact Dat.le_nilK (by decide) | assumption | exact Dat.le_refl _ | exact le_eq (by simp)) ?_))
  case objs0 => rfl
  case round =>
    rintro k ⟨h1, h2, h3⟩
    dsimp only [upds, z0, z1]
    ((repeat' (first | (apply WL.opG; (focus (apply SYG.yes; (exact want_none rfl); (first | (apply SY.move <;> (exact oD)) | (apply SY.assign <;> (exact oD)) | (apply SY.load; (exact tD); (exact OpD.t rfl))))); dsimp only [setD, z0, z1]) | refine WL.nil ?_ | refine WC.seqK fun Kx hK => ?_ | (refine hK _ _ ?_; clear hK) | (refine Kont.skip ?_; clear hK) | refine WC.region ?_ | (apply WL.alloc; (exact tzV); (first | exact shape_X rfl | exact shape_XV | exact shape_C0 rfl); (intro _; dsimp only [setD, z0, z1])) | (apply WL.storeF; (exact tD); rfl; (exact oD); (exact hD); dsimp only [setD, z0, z1]) | (apply WL.opG; (focus (apply SYG.yes; (exact want_none rfl); ((first | (apply SY.dynF (x := ((a[k], b[k]) : Vx × Vx)); (exact OpD.t rfl); (exact aD)) | exact yLss | exact yGeq | exact yNeq | exact yAdd | exact yLen | exact yIndexaddr | fail); all_goals infer_instance))); dsimp only [setD, z0, z1]) | (apply WC.condD; (exact oD); (all_goals intro h); (all_goals try (exfalso; first | omega | contradiction))) | (apply WC.condN; (exact oD); (all_goals intro h); (all_goals try (exfalso; first | omega | contradiction))) | refine WC.skip ?_ | refine WC.ret ?_ | refine WC.exit ?_ | refine WC.block ?_ | refine ThenD.n ?_ | refine ThenD.r ?_ | refine InBlockD.r ?_)); all_goals (first | refine WC.id ?_ | refine WL.id ?_ | refine WDs.id ?_ | ((repeat clear hK); (repeat clear Kx))))
    all_goals first
      | ((refine ⟨k + 1, ?_, by first | omega | (simp only; omega), rfl, ?_⟩; rotate_left; ((try dsimp only [upds, z0, z1]); repeat (first | exact LeF.nil | refine LeF.cons (by first | with_reducible exact Dat.le_any _ | with_reducible exact Dat.le_refl _ | exact le_ii (by omega) | exact Dat.le_nil | exact Dat.le_nilK (by decide) | assumption | exact Dat.le_refl _ | exact le_eq (by simp)) ?_)); (try dsimp only)); exact ⟨by omega, by omega, h3.trans (cmpL_step (by omega) (by omega) (by assumption))⟩)
      | ((refine ⟨trivial, _, rfl, ?_⟩; (first | exact fD | refine FinD.i ?_ | refine FinD.b ?_ | refine FinD.rowKE (.head _) ?_ | refine FinD.rowE (.head _) ?_ | refine FinD.nilKE (by decide) ?_ | refine FinD.nilE ?_ | refine FinD.s ?_)); rw [h3, cmpL_drop]; repeat' split) <;> first | rfl | contradiction | omega
theorem cmpL_p (a b : List Vx) : Fn Tryz.prog 93 [dS Verts a, dS Verts b] (dI (cmpL a b)) := by
  (refine Fn.intro1 Tryz.func93 rfl rfl ?_; simp only [Tryz.ntmps93, List.length_cons, List.length_nil, Nat.reduceAdd, Nat.reduceSub, List.replicate_succ, List.replicate_zero, List.cons_append, List.nil_append])
  ((repeat' (first | (apply WL.opG; (focus (apply SYG.yes; (exact want_none rfl); (first | (apply SY.move <;> (exact oD)) | (apply SY.assign <;> (exact oD))))); dsimp only [setD, z0, z1]) | refine WL.nil ?_ | refine WC.seqK fun Kx hK => ?_ | (refine hK _ _ ?_; clear hK) | refine WC.region ?_ | (apply WL.opG; (focus (apply SYG.yes; (exact want_none rfl); ((first | (apply SY.call (cmpF_p _ _) Tryz.call155; (exact aD)) | fail); all_goals infer_instance))); dsimp only [setD, z0, z1]) | refine WC.ret ?_)); all_goals (first | refine WC.id ?_ | refine WL.id ?_ | refine WDs.id ?_ | ((repeat clear hK); (repeat clear Kx))))
  all_goals (refine ⟨trivial, _, rfl, ?_⟩; (first | exact fD | refine FinD.i ?_ | refine FinD.b ?_ | refine FinD.rowKE (.head _) ?_ | refine FinD.rowE (.head _) ?_ | refine FinD.nilKE (by decide) ?_ | refine FinD.nilE ?_ | refine FinD.s ?_))
theorem eqV_p (a b : List Vx) : Fn Tryz.prog 144 [dS Verts a, dS Verts b] (dB (decide (a = b))) := by
  (refine Fn.intro1 Tryz.func144 rfl rfl ?_; simp only [Tryz.ntmps144, List.length_cons, List.length_nil, Nat.reduceAdd, Nat.reduceSub, List.replicate_succ, List.replicate_zero, List.cons_append, List.nil_append])
  ((repeat' (first | ((first | apply WL.opG | apply WD.op); (focus (apply SYG.yes; (exact want_none rfl); (first | (apply SY.move <;> (exact oD)) | (apply SY.assign <;> (exact oD)) | (apply SY.load; (exact tD); (exact OpD.t rfl))))); dsimp only [setD, z0, z1]) | refine WL.nil ?_ | refine WC.seqK fun Kx hK => ?_ | (refine hK _ _ ?_; clear hK) | refine WC.region ?_ | ((first | apply WL.opG | apply WD.op); (focus (apply SYG.yes; (exact want_none rfl); ((first | exact yNeq | exact yLen | fail); all_goals infer_instance))); dsimp only [setD, z0, z1]) | (apply WC.condN; (exact oD); (all_goals intro h); (all_goals try (exfalso; first | omega | contradiction))) | refine WC.skip ?_ | refine WC.ret ?_ | refine WC.block ?_ | refine ThenD.r ?_)); all_goals (first | refine WC.id ?_ | refine WL.id ?_ | refine WDs.id ?_ | ((repeat clear hK); (repeat clear Kx))))
  · (refine ⟨trivial, _, rfl, ?_⟩; (first | exact fD | refine FinD.i ?_ | refine FinD.b ?_ | refine FinD.rowKE (.head _) ?_ | refine FinD.rowE (.head _) ?_ | refine FinD.nilKE (by decide) ?_ | refine FinD.nilE ?_ | refine FinD.s ?_))
    have : a ≠ b := fun e => h (by rw [e])
    simp [this]
  · have h0 := h
    (first | refine WC.know (t := 0) rfl le_K fun hl0 => ?_ | refine WC.know (t := 0) rfl le_A fun hl0 => ?_ | refine WC.know (t := 0) rfl le_C fun hl0 => ?_); simp only [maxLen] at hl0
    have h0' : a.length = b.length := by omega
    (refine WC.loopU (X := Nat) (fun k => [(13, dI (k : Int)), (4, dA), (5, dA), (14, dA), (15, dA), (16, dA), (17, dA), (18, dA), (19, dA), (20, dA), (21, dA), (22, dA), (23, dA), (24, dA), (25, dA)]) (fun k => []) (fun k => a.length - k) (fun k => k ≤ a.length ∧ a.take k = b.take k) 0 ?start ?frame0 ?objs0 ?round)
    case start => simp
    case frame0 => ((try dsimp only [upds, z0, z1]); repeat (first | exact LeF.nil | refine LeF.cons (by first | with_reducible exact Dat.le_any _ | with_reducible exact Dat.le_refl _ | exact le_ii (by omega) | exact Dat.le_nil | exact Dat.le_nilK (by decide) | assumption | exact Dat.le_refl _ | exact le_eq (by simp)) ?_))
    case objs0 => rfl
    case round =>
      rintro k ⟨h1, h2⟩
      dsimp only [upds, z0, z1]
      ((repeat' (first | ((first | apply WL.opG | apply WD.op); (focus (apply SYG.yes; (exact want_none rfl); (first | (apply SY.move <;> (exact oD)) | (apply SY.assign <;> (exact oD)) | (apply SY.load; (exact tD); (exact OpD.t rfl))))); dsimp only [setD, z0, z1]) | refine WL.nil ?_ | refine WD.nil ?_ | refine WC.seqK fun Kx hK => ?_ | (refine hK _ _ ?_; clear hK) | (refine Kont.skip ?_; clear hK) | refine WC.region ?_ | (apply WC.draw; kernel_rfl; kernel_rfl) | ((first | apply WL.opG | apply WD.op); (focus (apply SYG.yes; (exact want_none rfl); ((first | exact yLss | exact yNeq | exact yAdd | exact yIndexaddr | fail); all_goals infer_instance))); dsimp only [setD, z0, z1]) | (apply WC.condD; (exact oD); (all_goals intro h); (all_goals try (exfalso; first | omega | contradiction))) | (apply WC.condN; (exact oD); (all_goals intro h); (all_goals try (exfalso; first | omega | contradiction))) | refine WC.skip ?_ | refine WC.ret ?_ | refine WC.exit ?_ | refine WC.block ?_ | refine ThenD.n ?_ | refine ThenD.r ?_ | refine InBlockD.r ?_)); all_goals (first | refine WC.id ?_ | refine WL.id ?_ | refine WDs.id ?_ | ((repeat clear hK); (repeat clear Kx))))
      · (refine ⟨trivial, _, rfl, ?_⟩; (first | exact fD | refine FinD.i ?_ | refine FinD.b ?_ | refine FinD.rowKE (.head _) ?_ | refine FinD.rowE (.head _) ?_ | refine FinD.nilKE (by decide) ?_ | refine FinD.nilE ?_ | refine FinD.s ?_))
        have : a ≠ b := fun e => h (by subst e; rfl)
        simp [this]
      · (refine ⟨k + 1, ?_, by first | omega | (simp only; omega), rfl, ?_⟩; rotate_left; ((try dsimp only [upds, z0, z1]); repeat (first | exact LeF.nil | refine LeF.cons (by first | with_reducible exact Dat.le_any _ | with_reducible exact Dat.le_refl _ | exact le_ii (by omega) | exact Dat.le_nil | exact Dat.le_nilK (by decide) | assumption | exact Dat.le_refl _ | exact le_eq (by simp)) ?_)); (try dsimp only))
        exact ⟨by omega, by rw [take_snoc' (by omega), take_snoc' (by omega), h2, h]⟩
      · rw [List.take_of_length_le (by omega), List.take_of_length_le (by omega)] at h2
        (refine ⟨trivial, _, rfl, ?_⟩; (first | exact fD | refine FinD.i ?_ | refine FinD.b ?_ | refine FinD.rowKE (.head _) ?_ | refine FinD.rowE (.head _) ?_ | refine FinD.nilKE (by decide) ?_ | refine FinD.nilE ?_ | refine FinD.s ?_))
        simp [h2]
end Go.Proofs.YtkedmlandjlogaaGreat
namespace Go.Proofs.YtkedmlandjlogaaGreat.M
open Go.RowKit

set_option maxHeartbeats 4000000 in
theorem cmpF_p (a b : List Vx) : Fn Tryz.prog 155 [dS Verts a, dS Verts b, dFun Tryz.prog (fun x : Vx × Vx => [dS RV x.1, dS RV x.2]) (fun x => dI (cmpV x.1 x.2))] (dI (cmpL a b)) := by
  (refine Fn.intro1 Tryz.func155 rfl rfl ?_; simp only [Tryz.ntmps155, List.length_cons, List.length_nil, Nat.reduceAdd, Nat.reduceSub, List.replicate_succ, List.replicate_zero, List.cons_append, List.nil_append])
  ((repeat' (first | (apply WL.opG; (focus (apply SYG.yes; (exact want_none rfl); (first | (apply SY.move <;> (exact oD)) | (apply SY.assign <;> (exact oD)) | (apply SY.load; (exact tD); (exact OpD.t rfl))))); dsimp only [setD, z0, z1]) | refine WL.nil ?_ | refine WC.seqK fun Kx hK => ?_ | (refine hK _ _ ?_; clear hK) | refine WC.region ?_ | (apply WL.opG; (focus (apply SYG.yes; (exact want_none rfl); ((first | (apply SY.len; (exact oD); (first | exact len_K | exact len_A | exact len_nil); (exact uD)) | fail); all_goals infer_instance))); dsimp only [setD, z0, z1]) | refine WC.block ?_)); all_goals (first | refine WC.id ?_ | refine WL.id ?_ | refine WDs.id ?_ | ((repeat clear hK); (repeat clear Kx))))
  (first | refine WC.know (t := 0) rfl le_K fun hl0 => ?_ | refine WC.know (t := 0) rfl le_A fun hl0 => ?_ | refine WC.know (t := 0) rfl le_C fun hl0 => ?_); simp only [maxLen] at hl0
  (first | refine WC.know (t := 1) rfl le_K fun hl1 => ?_ | refine WC.know (t := 1) rfl le_A fun hl1 => ?_ | refine WC.know (t := 1) rfl le_C fun hl1 => ?_); simp only [maxLen] at hl1
  (refine WC.loopU (X := Nat) (fun k => [(13, dI (k : Int)), (6, dA), (7, dA), (8, dA), (9, dA), (10, dA), (14, dA), (15, dA), (16, dA), (17, dA), (18, dA), (19, dA), (20, dA), (21, dA), (22, dA), (23, dA), (24, dA), (25, dA), (26, dA), (27, dA), (28, dA), (29, dA), (30, dA), (31, dA), (32, dA), (33, dA)]) (fun k => []) (fun k => a.length - k) (fun k => k ≤ a.length ∧ k ≤ b.length ∧ cmpL a b = cmpL (a.drop k) (b.drop k)) 0 ?start ?frame0 ?objs0 ?round)
  case start => exact ⟨Nat.zero_le _, Nat.zero_le _, rfl⟩
  case frame0 => ((try dsimp only [upds, z0, z1]); repeat (first | exact LeF.nil | refine LeF.cons (by first | with_reducible exact Dat.le_any _ | with_reducible exact Dat.le_refl _ | exact le_ii (by omega) | exact Dat.le_nil | exact Dat.le_nilK (by decide) | assumption | exact Dat.le_refl _ | exact le_eq (by simp)) ?_))
  case objs0 => rfl
  case round =>
    rintro k ⟨h1, h2, h3⟩
    dsimp only [upds, z0, z1]
    ((repeat' (first | (apply WL.opG; (focus (apply SYG.yes; (exact want_none rfl); (first | (apply SY.move <;> (exact oD)) | (apply SY.assign <;> (exact oD)) | (apply SY.load; (exact tD); (exact OpD.t rfl))))); dsimp only [setD, z0, z1]) | refine WL.nil ?_ | refine WC.seqK fun Kx hK => ?_ | (refine hK _ _ ?_; clear hK) | (refine Kont.skip ?_; clear hK) | refine WC.region ?_ | (apply WL.alloc; (exact tzV); (first | exact shape_X rfl | exact shape_XV | exact shape_C0 rfl); (intro _; dsimp only [setD, z0, z1])) | (apply WL.storeF; (exact tD); rfl; (exact oD); (exact hD); dsimp only [setD, z0, z1]) | (apply WL.opG; (focus (apply SYG.yes; (exact want_none rfl); ((first | (apply SY.dynF (x := ((a[k], b[k]) : Vx × Vx)); (exact OpD.t rfl); (exact aD)) | ((first | apply SY.move | apply SY.assign | apply SY.lss | apply SY.geq | apply SY.neq) <;> (exact oD)) | ((first | apply SY.add) <;> first | exact oD | omega) | (apply SY.len; (exact oD); (first | exact len_K | exact len_A | exact len_nil); (exact uD)) | (apply SY.ixK; (exact eD); (exact oD); (exact oD); (first | assumption | omega)) | fail); all_goals infer_instance))); dsimp only [setD, z0, z1]) | (apply WC.condD; (exact oD); (all_goals intro h); (all_goals try (exfalso; first | omega | contradiction))) | (apply WC.condN; (exact oD); (all_goals intro h); (all_goals try (exfalso; first | omega | contradiction))) | refine WC.skip ?_ | refine WC.ret ?_ | refine WC.exit ?_ | refine WC.block ?_ | refine ThenD.n ?_ | refine ThenD.r ?_ | refine InBlockD.r ?_)); all_goals (first | refine WC.id ?_ | refine WL.id ?_ | refine WDs.id ?_ | ((repeat clear hK); (repeat clear Kx))))
    all_goals first
      | ((refine ⟨k + 1, ?_, by first | omega | (simp only; omega), rfl, ?_⟩; rotate_left; ((try dsimp only [upds, z0, z1]); repeat (first | exact LeF.nil | refine LeF.cons (by first | with_reducible exact Dat.le_any _ | with_reducible exact Dat.le_refl _ | exact le_ii (by omega) | exact Dat.le_nil | exact Dat.le_nilK (by decide) | assumption | exact Dat.le_refl _ | exact le_eq (by simp)) ?_)); (try dsimp only)); exact ⟨by omega, by omega, h3.trans (cmpL_step (by omega) (by omega) (by assumption))⟩)
      | ((refine ⟨trivial, _, rfl, ?_⟩; (first | exact fD | refine FinD.i ?_ | refine FinD.b ?_ | refine FinD.rowKE (.head _) ?_ | refine FinD.rowE (.head _) ?_ | refine FinD.nilKE (by decide) ?_ | refine FinD.nilE ?_ | refine FinD.s ?_)); rw [h3, cmpL_drop]; repeat' split) <;> first | rfl | contradiction | omega
theorem cmpL_p (a b : List Vx) : Fn Tryz.prog 93 [dS Verts a, dS Verts b] (dI (cmpL a b)) := by
  (refine Fn.intro1 Tryz.func93 rfl rfl ?_; simp only [Tryz.ntmps93, List.length_cons, List.length_nil, Nat.reduceAdd, Nat.reduceSub, List.replicate_succ, List.replicate_zero, List.cons_append, List.nil_append])
  ((repeat' (first | (apply WL.opG; (focus (apply SYG.yes; (exact want_none rfl); (first | (apply SY.move <;> (exact oD)) | (apply SY.assign <;> (exact oD))))); dsimp only [setD, z0, z1]) | refine WL.nil ?_ | refine WC.seqK fun Kx hK => ?_ | (refine hK _ _ ?_; clear hK) | refine WC.region ?_ | (apply WL.opG; (focus (apply SYG.yes; (exact want_none rfl); ((first | (apply SY.call (cmpF_p _ _) Tryz.call155; (exact aD)) | fail); all_goals infer_instance))); dsimp only [setD, z0, z1]) | refine WC.ret ?_)); all_goals (first | refine WC.id ?_ | refine WL.id ?_ | refine WDs.id ?_ | ((repeat clear hK); (repeat clear Kx))))
  all_goals ((refine ⟨trivial, _, rfl, ?_⟩; (first | exact fD | refine FinD.i ?_ | refine FinD.b ?_ | refine FinD.rowKE (.head _) ?_ | refine FinD.rowE (.head _) ?_ | refine FinD.nilKE (by decide) ?_ | refine FinD.nilE ?_ | refine FinD.s ?_)); try rfl)
theorem cmpL_x {I : Nat → Prop} {w : World} {u v : Value} {a b : List Vx} (hu : Verts I w u a) (hv : Verts I w v b) : Calls Tryz.prog 93 #[u, v] w fun e w' => e = .returned (.int .i64 (cmpL a b)) ∧ ∃ q os', w' = Go.Sort.grow (w.drewN q) os' := by
  have := (cmpL_p a b).out I w [u, v] rfl (fun i d hd => by
    match i with
    | 0 => cases hd; exact hu
    | 1 => cases hd; exact hv
    | i + 2 => simp at hd)
  exact this.mono fun e w' ⟨v, h1, h2, h3⟩ => ⟨by rw [h1]; exact congrArg _ h3, h2.grow⟩
end Go.Proofs.YtkedmlandjlogaaGreat.M
namespace Go.Proofs
open Go.Shelf
def Tryz.sortS_ren : Go.Shelf.Ren := ⟨fun | 6 => 142 | 15 => 190 | 14 => 189 | 28 => 220 | 29 => 221 | 20 => 212 | 21 => 213 | 22 => 214 | 23 => 215 | 24 => 216 | 25 => 217 | 26 => 218 | 27 => 219 | 46 => 242 | 47 => 243 | 48 => 244 | 49 => 245 | 50 => 246 | 57 => 253 | n => n, fun | 22 => 22 | 24 => 32 | 25 => 133 | 3 => 3 | 39 => 219 | 0 => 0 | 53 => 250 | 55 => 252 | 4 => 4 | 46 => 244 | 45 => 243 | 50 => 115 | 5 => 5 | 9 => 9 | 66 => 266 | 70 => 270 | 76 => 276 | 77 => 159 | n => n, fun | n => n⟩
theorem Tryz.sortS : Go.Proofs.SlLaysF.n6 Tryz.prog Tryz.sortS_ren := {
  mixed := by kernel_rfl
  f6 := ⟨Tryz.f142.name, by decide, Tryz.func142.trans (congrArg some (by kernel_rfl))⟩
  f14 := ⟨Tryz.f189.name, by decide, Tryz.func189.trans (congrArg some (by kernel_rfl))⟩
  f15 := Tryz.func190.trans (congrArg some (by kernel_rfl))
  f20 := ⟨Tryz.f212.name, by decide, Tryz.func212.trans (congrArg some (by kernel_rfl))⟩
  f21 := ⟨Tryz.f213.name, by decide, Tryz.func213.trans (congrArg some (by kernel_rfl))⟩
  f22 := ⟨Tryz.f214.name, by decide, Tryz.func214.trans (congrArg some (by kernel_rfl))⟩
  f23 := ⟨Tryz.f215.name, by decide, Tryz.func215.trans (congrArg some (by kernel_rfl))⟩
  f24 := ⟨Tryz.f216.name, by decide, Tryz.func216.trans (congrArg some (by kernel_rfl))⟩
  f25 := ⟨Tryz.f217.name, by decide, Tryz.func217.trans (congrArg some (by kernel_rfl))⟩
  f26 := ⟨Tryz.f218.name, by decide, Tryz.func218.trans (congrArg some (by kernel_rfl))⟩
  f27 := ⟨Tryz.f219.name, by decide, Tryz.func219.trans (congrArg some (by kernel_rfl))⟩
  f28 := Tryz.func220.trans (congrArg some (by kernel_rfl))
  f29 := Tryz.func221.trans (congrArg some (by kernel_rfl))
  f46 := ⟨Tryz.f242.name, by decide, Tryz.func242.trans (congrArg some (by kernel_rfl))⟩
  f47 := Tryz.func243.trans (congrArg some (by kernel_rfl))
  f48 := Tryz.func244.trans (congrArg some (by kernel_rfl))
  f49 := ⟨Tryz.f245.name, by decide, Tryz.func245.trans (congrArg some (by kernel_rfl))⟩
  f50 := ⟨Tryz.f246.name, by decide, Tryz.func246.trans (congrArg some (by kernel_rfl))⟩
  f57 := ⟨Tryz.f253.name, by decide, Tryz.func253.trans (congrArg some (by kernel_rfl))⟩
  t0 := Tryz.underlying0
  a0 := Tryz.isAgg0
  z0 := Tryz.sizeOf0
  v0 := Tryz.zeroValue0
  t3 := Tryz.underlying3
  a3 := Tryz.isAgg3
  z3 := Tryz.sizeOf3
  v3 := Tryz.zeroValue3
  t4 := Tryz.underlying4
  a4 := Tryz.isAgg4
  z4 := Tryz.sizeOf4
  v4 := Tryz.zeroValue4
  t5 := Tryz.underlying5
  a5 := Tryz.isAgg5
  z5 := Tryz.sizeOf5
  v5 := Tryz.zeroValue5
  t9 := Tryz.underlying9
  a9 := Tryz.isAgg9
  z9 := Tryz.sizeOf9
  v9 := Tryz.zeroValue9
  t22 := Tryz.underlying22
  a22 := Tryz.isAgg22
  z22 := Tryz.sizeOf22
  v22 := Tryz.zeroValue22
  a24 := Tryz.isAgg32
  z24 := Tryz.sizeOf32
  t25 := Tryz.underlying133
  a25 := Tryz.isAgg133
  z25 := Tryz.sizeOf133
  v25 := Tryz.zeroValue133
  t39 := Tryz.underlying219
  a39 := Tryz.isAgg219
  z39 := Tryz.sizeOf219
  v39 := Tryz.zeroValue219
  t45 := Tryz.underlying243
  a45 := Tryz.isAgg243
  z45 := Tryz.sizeOf243
  v45 := Tryz.zeroValue243
  t46 := Tryz.underlying244
  a46 := Tryz.isAgg244
  z46 := Tryz.sizeOf244
  v46 := Tryz.zeroValue244
  t50 := Tryz.underlying115
  a50 := Tryz.isAgg115
  z50 := Tryz.sizeOf115
  v50 := Tryz.zeroValue115
  t53 := Tryz.underlying250
  a53 := Tryz.isAgg250
  z53 := Tryz.sizeOf250
  v53 := Tryz.zeroValue250
  t55 := Tryz.underlying252
  a55 := Tryz.isAgg252
  z55 := Tryz.sizeOf252
  v55 := Tryz.zeroValue252
  t66 := Tryz.underlying266
  a66 := Tryz.isAgg266
  z66 := Tryz.sizeOf266
  v66 := Tryz.zeroValue266
  t70 := Tryz.underlying270
  a70 := Tryz.isAgg270
  z70 := Tryz.sizeOf270
  v70 := Tryz.zeroValue270
  t76 := Tryz.underlying276
  a76 := Tryz.isAgg276
  z76 := Tryz.sizeOf276
  v76 := Tryz.zeroValue276
  t77 := Tryz.underlying159
  a77 := Tryz.isAgg159
  z77 := Tryz.sizeOf159
  v77 := Tryz.zeroValue159 }
end Go.Proofs
namespace Go.Proofs.YtkedmlandjlogaaGreat
theorem cmpV_range (x y : Vx) : -1 ≤ cmpV x y ∧ cmpV x y ≤ 1 := by rcases cmpV_cases x y with h | h | h <;> omega
theorem cmpL_neg : ∀ (a b : List Vx), cmpL b a = - cmpL a b
  | [], [] => by simp [cmpL]
  | [], _ :: _ => by simp [cmpL]
  | _ :: _, [] => by simp [cmpL]
  | x :: a, y :: b => by
    unfold cmpL
    have h := cmpV_neg x y
    split <;> split
    · exact cmpL_neg a b
    · omega
    · omega
    · exact h
theorem cmpL_trans : ∀ (a b c : List Vx), cmpL a b ≤ 0 → cmpL b c ≤ 0 → cmpL a c ≤ 0 ∧ (cmpL a c = 0 → 0 ≤ cmpL a b + cmpL b c)
  | [], [], [], _, _ => by simp [cmpL]
  | [], [], _ :: _, _, _ => by simp [cmpL]
  | [], _ :: _, [], _, h => by simp [cmpL] at h
  | [], _ :: _, _ :: _, _, _ => by simp [cmpL]
  | _ :: _, [], _, h, _ => by simp [cmpL] at h
  | _ :: _, _ :: _, [], _, h => by simp [cmpL] at h
  | x :: a, y :: b, z :: c, h, h' => by
    have ih := cmpL_trans a b c
    unfold cmpL at h h' ⊢
    have r1 := cmpV_range x y
    have r2 := cmpV_range y z
    by_cases e1 : cmpV x y = 0
    · have := cmpV_eq.1 e1
      subst this
      rw [if_pos e1] at h ⊢
      by_cases e2 : cmpV x z = 0
      · simp only [e2, if_true] at h' ⊢
        exact ih h h'
      · rw [if_neg e2] at h'
        rw [if_neg e2]
        exact ⟨h', fun h0 => absurd h0 e2⟩
    · rw [if_neg e1] at h ⊢
      by_cases e2 : cmpV y z = 0
      · have := cmpV_eq.1 e2
        subst this
        rw [if_neg e1]
        omega
      · rw [if_neg e2] at h' ⊢
        have e3 := cmpV_trans (by omega : cmpV x y < 0) (by omega : cmpV y z < 0)
        rw [if_neg (by omega)]
        omega
end Go.Proofs.YtkedmlandjlogaaGreat
namespace Go.Proofs.YtkedmlandjlogaaGreat
open Go.RowKit Go.Sort Go.Shelf
section
variable {w : World} {g n cap : Nat} {os : Array Obj} {cur : Array Value} {e : TypeId} {fz : Nat × Nat} {α : Type} [Inhabited α] {enc : α → Value}
theorem grownBy_sorted1 (d : Array α) : w.grownBy (sortWorld enc w g 0 n d os) (some g) := by
  refine ⟨rfl, rfl, rfl, by simp [sortWorld], fun k hk hne => ?_⟩
  unfold sortWorld
  rw [heap_grow_old _ _ (by simpa using hk)]
  have : g ≠ k := fun e => hne (by rw [e])
  simp [putRow, mapBlock, Sort.ahead, Array.getElem?_modify, this]
theorem heap_sorted1 (d : Array α) (hb : w.heap[g]? = some (.cells cur e fz)) :
    (sortWorld enc w g 0 n d os).heap[g]? = some (.cells (putCells enc 0 d cur) e fz) := by
  have hg : g < w.heap.size := (Array.getElem?_eq_some_iff.1 hb).1
  unfold sortWorld
  rw [heap_grow_old _ _ (by simpa using hg)]
  simp [putRow, mapBlock, Sort.ahead, Array.getElem?_modify, hb, onCells]
theorem holds_of_row1 {d : Array α} (hb : w.heap[g]? = some (.cells cur e (0, 0))) (ht : cur.toList.take d.size = d.toList.map enc) : Holds enc w g 0 d := by
  intro j hj
  refine ⟨?_, by simp [World.frozen?, hb]⟩
  have h1 : (cur.toList.take d.size)[j]? = (d.toList.map enc)[j]? := by rw [ht]
  rw [List.getElem?_take_of_lt hj] at h1
  simp only [World.cell?, hb, Nat.zero_add]
  simp only [Option.isSome_none, Bool.false_eq_true, if_false]
  rw [← Array.getElem?_toList, h1, getElem!_pos _ j hj]
  simp [hj]
theorem take_putCells1 (cur : Array Value) (d : Array α) (h : d.size ≤ cur.size) : (putCells enc 0 d cur).toList.take d.size = d.toList.map enc := by
  apply List.ext_getElem?
  intro j
  by_cases hj : j < d.size
  · rw [List.getElem?_take_of_lt hj, Array.getElem?_toList]
    simp [putCells, hj, show j < cur.size by omega]
  · rw [List.getElem?_take_eq_none (by omega), List.getElem?_eq_none (by simp; omega)]
end
theorem cmpL_lt_trans0 {a b c : List Vx} (h : cmpL a b < 0) (k : cmpL b c < 0) : cmpL a c < 0 := by
  obtain ⟨h1, h2⟩ := cmpL_trans a b c (by omega) (by omega)
  rcases Int.lt_or_eq_of_le h1 with h3 | h3
  · exact h3
  · have := h2 h3; omega
theorem swoL {α : Type} (f : α → List Vx) : SWO (ltOf fun x y : α => cmpL (f x) (f y)) where
  irrefl x := by simp [ltOf, cmpL_eq.2 (rfl : f x = f x)]
  trans x y z h h' := by
    simp only [ltOf, decide_eq_true_eq] at *
    exact cmpL_lt_trans0 h h'
  ntrans x y z h h' := by
    simp only [ltOf, decide_eq_false_iff_not] at *
    have e1 := cmpL_neg (f x) (f y)
    have e2 := cmpL_neg (f y) (f z)
    have e3 := cmpL_neg (f x) (f z)
    have := (cmpL_trans (f z) (f y) (f x) (by omega) (by omega)).1
    omega
section
variable {ops : Array Oper} {hp : List HObj} {fr : List Dat} {Q : Post} {rest : List Oper} {dst : Option Tmp} {ty : TypeId} {ps : String} {af : Array Edge}
theorem WL.sortS {x : Operand} {v : Value} {e : TypeId} {xs : List (List Vx)} {ats : Array TypeId} (hx : OpD fr x (dX v)) (hlen : xs.length < 4611686018427387904)
    (h : ∀ ys : List (List Vx), ys.Perm xs → ys.Pairwise (fun a b => ¬ cmpL b a < 0) → WL Tryz.prog ops Q rest (setD fr dst dA) (hRow v e Verts ys :: hp)) :
    WL Tryz.prog ops Q ({ dst := dst, op := .call { callee := .value (.func 142), args := #[x, .func 93], argTypes := ats }, type := ty, pos := ps, after := af, guard := none } :: rest) fr (hRow v e Verts xs :: hp) := by
  refine WL.of fun P0 B w0 w a hh hf => ?_
  have hok := hh.ok (hRow v e Verts xs) (by simp)
  obtain ⟨us, h1, h2, h3⟩ := hok
  have hev : a.eval x = v := hx.ev hf
  obtain ⟨hfl, hv⟩ := h2
  have hrun : (execOp a.eval { dst := dst, op := .call { callee := .value (.func 142), args := #[x, .func 93], argTypes := ats }, type := ty, pos := ps, after := af, guard := none }).run Tryz.prog w = .ok (.enter 142 #[v, .func (.func 93) #[] #[]]) w := by
    unfold execOp
    simp only [resolve]
    have he : (#[x, Operand.func 93] : Array Operand).map a.eval = #[v, .func (.func 93) #[] #[]] := by simp [hev]; rfl
    rw [he]
    simp [Act.eval, Deferred.ofValue, invoke, Tryz.call142]
  by_cases hne : xs = []
  · subst hne
    have hv0 : ∃ p cap, v = .slice p 0 cap := by
      rcases hv with ⟨hv, _⟩ | ⟨g, cap, cur, hv, _⟩
      · exact ⟨_, _, hv⟩
      · exact ⟨_, _, hv⟩
    obtain ⟨p, cap, hv0⟩ := hv0
    have hcon := AnyF.slices_SortFunc_none (P := Tryz.prog) (ρ := Tryz.sortS_ren) { Tryz.sortS with } p cap (.func (.func 93) #[] #[]) w
    change Calls Tryz.prog 142 _ _ _ at hcon
    refine wpList_plain rfl fun K hK => ?_
    unfold Oper.wp
    rw [hrun, hv0]
    refine hcon.mono fun e' w' ⟨he, hw'⟩ => ?_
    subst he
    subst hw'
    exact hK _ _ ((h [] (List.Perm.refl _) List.Pairwise.nil).on hh (hf.put (d := dA) trivial))
  have hpos : 0 < xs.length := List.length_pos_iff.2 hne
  rcases hv with ⟨_, hz⟩ | ⟨g, cap, cur, hv, hB, hg, hc1, hc2, hc3, hc4⟩
  · omega
  have hgb : g < w.heap.size := (Array.getElem?_eq_some_iff.1 hg).1
  let J : Nat → Prop := fun b => Imm P0 B (hRow v e Verts xs :: hp) b ∧ v.ownBlock ≠ some b
  let α := {p : Value × List Vx // p.1.oneCell' = true ∧ Verts J w p.1 p.2}
  let at0 : Fin xs.length → α := fun k => ⟨(us[k.1]'(by omega), xs[k.1]), h3 k.1 (by omega) k.2⟩
  haveI : Inhabited α := ⟨at0 ⟨0, hpos⟩⟩
  let enc : α → Value := fun p => p.1.1
  let d : Array α := (List.ofFn at0).toArray
  have hds : d.size = xs.length := by simp [d]
  have hdu : d.toList.map enc = us := by
    apply List.ext_getElem (by simp [d, h1])
    intro k a b
    simp [d, enc, at0]
  have hdx : d.toList.map (fun p => p.1.2) = xs := by
    apply List.ext_getElem (by simp [d])
    intro k a b
    simp [d, at0]
  have hown : v.ownBlock = some g := by rw [hv]; rfl
  have hH : Holds enc w g 0 d := holds_of_row1 hg (by rw [hds, hdu]; simpa using hc4)
  have hgr : ∀ (d' : Array α) (n : Nat) (os : Array Obj), w.grownBy (sortWorld enc w g 0 n d' os) (hRow v e Verts xs).blk := fun d' n os => by
    show w.grownBy _ v.ownBlock
    rw [hown]; exact grownBy_sorted1 d'
  have hmove : ∀ (p : α) (d' : Array α) (n : Nat) (os : Array Obj), Verts (fun b => J b ∧ b < w.heap.size) (sortWorld enc w g 0 n d' os) p.1.1 p.1.2 := fun p d' n os =>
    Good.move (Good.bound p.2.2) fun k hk hlt => (hgr d' n os).block k hlt fun he => hk.1.2 he.symm
  have hcon := Any.slices_SortFunc Tryz.sortS enc (fun p => p.2.1) (fun p q => cmpL p.1.2 q.1.2) (swoL fun p : α => p.1.2) 93 #[] g 0 cap d w Tryz.call93
    (fun m os dk _ p q => M.cmpL_x (hmove p dk m os) (hmove q dk m os)) hH hgb (by rw [hds]; exact hlen)
  change Calls Tryz.prog 142 _ _ _ at hcon
  refine wpList_plain rfl fun K hK => ?_
  unfold Oper.wp
  rw [hrun]
  have hva : v = .slice (some ⟨g, 0, none⟩) d.size cap := by rw [hds]; exact hv
  rw [← hva] at hcon
  refine hcon.mono fun e' w' ⟨he, d', n, os, hp1, hs, hw'⟩ => ?_
  subst he
  subst hw'
  obtain ⟨q1, _, q3⟩ := hp1
  have hperm : d'.toList.Perm d.toList := by
    have e1 : d'.extract 0 d.size = d' := by rw [← q1]; simp
    have e2 : d.extract 0 d.size = d := by simp
    rw [e1, e2] at q3
    exact q3
  have hys : (d'.toList.map fun p => p.1.2).Perm xs := by
    have := hperm.map (fun p : α => p.1.2)
    rwa [hdx] at this
  have hsort : (d'.toList.map fun p => p.1.2).Pairwise (fun a b => ¬ cmpL b a < 0) := by
    rw [List.pairwise_map, List.pairwise_iff_getElem]
    intro i j hi hj hij
    have hi' : i < d'.size := by simpa using hi
    have hj' : j < d'.size := by simpa using hj
    have := hs i j (Nat.zero_le _) hij (by omega)
    rw [getElem!_pos d' i hi', getElem!_pos d' j hj'] at this
    simpa [ltOf] using this
  have hlen' : (d'.toList.map fun p => p.1.2).length = xs.length := by simp; omega
  have hok : (hRow v e Verts (d'.toList.map fun p => p.1.2)).ok (fun k => Imm P0 B (hRow v e Verts xs :: hp) k ∧ k < w.heap.size) (sortWorld enc w g 0 n d' os) := by
    refine ⟨d'.toList.map enc, by simp, ⟨by simp, .inr ⟨g, cap, putCells enc 0 d' cur, ?_, hB, heap_sorted1 _ hg, by omega, hc2, by simp [putCells, hc3], ?_⟩⟩, fun k a b => ?_⟩
    · rw [hlen']; exact hv
    · rw [hlen', Nat.mul_one, ← hds, ← q1]
      exact take_putCells1 _ _ (by rw [q1, hds, hc3]; omega)
    · have hk : k < d'.toList.length := by simpa using a
      refine ⟨by rw [List.getElem_map]; exact d'.toList[k].2.1, ?_⟩
      rw [List.getElem_map, List.getElem_map]
      exact Good.weak (hmove d'.toList[k] d' n os) fun b hb => ⟨⟨hb.1.1, hb.2⟩, hb.1.2⟩
  exact hK _ _ ((h _ hys hsort).on (hh.write (hgr d' n os) (.inl rfl) hok) (Fr.put (hf.mono fun _ _ hd => Hp.written (o' := hRow v e Verts (d'.toList.map fun p => p.1.2)) (hgr d' n os) (.inl rfl) hd) (d := dA) trivial))
end
end Go.Proofs.YtkedmlandjlogaaGreat
