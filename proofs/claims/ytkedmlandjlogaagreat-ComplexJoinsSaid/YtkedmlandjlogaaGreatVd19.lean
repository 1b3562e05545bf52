/-
  Part 19 of the texts that the claims of this seat lean on: walks of the program's functions by contracts over symbolic frames, and plain laws of what they compute. No condition.
-/
import Derived.Test.YtkedmlandjlogaaGreatVd11
import Derived.Test.YtkedmlandjlogaaGreatVd16
import Derived.Test.YtkedmlandjlogaaGreatVd18
set_option linter.unusedVariables false
set_option linter.unusedSimpArgs false
set_option linter.unusedSectionVars false
namespace Go.Proofs.YtkedmlandjlogaaGreat
open Go.RowKit
set_option linter.unusedSimpArgs false

set_option maxHeartbeats 2000000
set_option maxRecDepth 100000
theorem around1_p (f s : List Vx) : Fn Tryz.prog 147 ([dS Verts f] ++ [dP 1 false (dS Verts s)]) (dB (faceG s f)) := by
  show Fn Tryz.prog 147 [dS Verts f, dP 1 false (dS Verts s)] (dB (faceG s f))
  (refine Fn.intro1 Tryz.func147 rfl rfl ?_; simp only [Tryz.ntmps147, List.length_cons, List.length_nil, Nat.reduceAdd, Nat.reduceSub, List.replicate_succ, List.replicate_zero, List.cons_append, List.nil_append])
  ((repeat' (first | (apply WL.opG; (focus (apply SYG.yes; (exact want_none rfl); (first | (apply SY.move <;> (exact oD)) | (apply SY.assign <;> (exact oD)) | (apply SY.load; (exact tD); (exact OpD.t rfl))))); dsimp only [setD, z0, z1]) | refine WL.nil ?_ | refine WC.seqK fun Kx hK => ?_ | (refine hK _ _ ?_; clear hK) | refine WC.region ?_ | (apply WL.opG; (focus (apply SYG.yes; (exact want_none rfl); ((first | (apply SY.call (face27_p _ _) Tryz.call148; (exact aD)) | fail); all_goals infer_instance))); dsimp only [setD, z0, z1]) | refine WC.ret ?_)); all_goals (first | refine WC.id ?_ | refine WL.id ?_ | refine WDs.id ?_ | ((repeat clear hK); (repeat clear Kx))))
  all_goals (refine ⟨trivial, _, rfl, ?_⟩; (first | exact fD | refine FinD.i ?_ | refine FinD.b ?_ | refine FinD.rowKE (.head _) ?_ | refine FinD.rowE (.head _) ?_ | refine FinD.nilKE (by decide) ?_ | refine FinD.nilE ?_ | refine FinD.s ?_))
abbrev MemS (l : Cx) := {v : List Vx // v ∈ l}
theorem around_p (l : Cx) (s : List Vx) (hl : l.length ≤ 1000000) : Fn Tryz.prog 86 [dS Cpx l, dS Verts s] (dS Simps (l.filter (faceG s))) := by
  (refine Fn.intro1 Tryz.func86 rfl rfl ?_; simp only [Tryz.ntmps86, List.length_cons, List.length_nil, Nat.reduceAdd, Nat.reduceSub, List.replicate_succ, List.replicate_zero, List.cons_append, List.nil_append])
  ((repeat' (first | (apply WL.opG; (focus (apply SYG.yes; (exact want_none rfl); (first | (apply SY.assign <;> (exact oD)) | (apply SY.load; (exact tD); (exact OpD.t rfl))))); dsimp only [setD, z0, z1]) | refine WL.nil ?_ | refine WC.seqK fun Kx hK => ?_ | (refine hK _ _ ?_; clear hK) | refine WC.region ?_ | (apply WL.opG; (focus (apply SYG.yes; (exact want_none rfl); ((first | (apply SY.makeFun (A := fun v : MemS l => [dS Verts v.1]) (r := fun v => dB (faceG s v.1)) Tryz.call147 (fun v => around1_p v.1 s) (fun _ => bare_B); (exact aD)) | (apply SY.call (filterS_p l (faceG s) hl) Tryz.call133; (exact aD)) | exact yFieldaddr | exact yBox | fail); all_goals infer_instance))); dsimp only [setD, z0, z1]) | refine WC.ret ?_)); all_goals (first | refine WC.id ?_ | refine WL.id ?_ | refine WDs.id ?_ | ((repeat clear hK); (repeat clear Kx))))
  all_goals (refine ⟨trivial, _, rfl, ?_⟩; (first | exact fD | refine FinD.i ?_ | refine FinD.b ?_ | refine FinD.rowKE (.head _) ?_ | refine FinD.rowE (.head _) ?_ | refine FinD.nilKE (by decide) ?_ | refine FinD.nilE ?_ | refine FinD.s ?_))
abbrev dPredI (at' : List Int) (p : Int → Bool) : Dat := dFun Tryz.prog (fun i : {i : Int // i ∈ at'} => [dI i.1]) (fun i => dB (p i.1))
theorem idxI_p (l : List Int) (p : Int → Bool) : Fn Tryz.prog 194 [dS Ints l, dPredI l p] (dI (idxG p 0 l)) := by
  (refine Fn.intro1 Tryz.func194 rfl rfl ?_; simp only [Tryz.ntmps194, List.length_cons, List.length_nil, Nat.reduceAdd, Nat.reduceSub, List.replicate_succ, List.replicate_zero, List.cons_append, List.nil_append])
  ((repeat' (first | (apply WL.opG; (focus (apply SYG.yes; (exact want_none rfl); (first | (apply SY.move <;> (exact oD)) | (apply SY.assign <;> (exact oD)) | (apply SY.load; (exact tD); (exact OpD.t rfl))))); dsimp only [setD, z0, z1]) | refine WL.nil ?_ | refine WC.seqK fun Kx hK => ?_ | (refine hK _ _ ?_; clear hK) | refine WC.region ?_ | (apply WL.opG; (focus (apply SYG.yes; (exact want_none rfl); ((first | exact yLen | fail); all_goals infer_instance))); dsimp only [setD, z0, z1]) | refine WC.block ?_)); all_goals (first | refine WC.id ?_ | refine WL.id ?_ | refine WDs.id ?_ | ((repeat clear hK); (repeat clear Kx))))
  (first | refine WC.know (t := 0) rfl le_K fun hl0 => ?_ | refine WC.know (t := 0) rfl le_A fun hl0 => ?_ | refine WC.know (t := 0) rfl le_C fun hl0 => ?_); simp only [maxLen] at hl0
  (refine WC.loopU (X := Nat) (fun k => [(8, dI (k : Int)), (4, dA), (5, dA), (9, dA), (10, dA), (11, dA), (12, dA), (13, dA), (14, dA), (15, dA), (16, dA), (17, dA), (18, dA)]) (fun k => []) (fun k => l.length - k) (fun k => k ≤ l.length ∧ idxG p 0 l = idxG p k (l.drop k)) 0 ?start ?frame0 ?objs0 ?round)
  case start => exact ⟨Nat.zero_le _, rfl⟩
  case frame0 => ((try dsimp only [upds, z0, z1]); repeat (first | exact LeF.nil | refine LeF.cons (by first | with_reducible exact Dat.le_any _ | with_reducible exact Dat.le_refl _ | exact le_ii (by omega) | exact Dat.le_nil | exact Dat.le_nilK (by decide) | assumption | exact Dat.le_refl _ | exact le_eq (by simp)) ?_))
  case objs0 => rfl
  case round =>
    rintro k ⟨h1, h2⟩
    dsimp only [upds, z0, z1]
    ((repeat' (first | (apply WL.opG; (focus (apply SYG.yes; (exact want_none rfl); (first | (apply SY.move <;> (exact oD)) | (apply SY.assign <;> (exact oD)) | (apply SY.load; (exact tD); (exact OpD.t rfl))))); dsimp only [setD, z0, z1]) | refine WL.nil ?_ | refine WC.seqK fun Kx hK => ?_ | (refine hK _ _ ?_; clear hK) | (refine Kont.skip ?_; clear hK) | refine WC.region ?_ | (apply WL.opG; (focus (apply SYG.yes; (exact want_none rfl); ((first | (apply SY.dynF (x := (⟨l[k], List.getElem_mem _⟩ : {i : Int // i ∈ l})); (exact OpD.t rfl); (exact aD)) | exact yLss | exact yAdd | exact yIndexaddr | fail); all_goals infer_instance))); dsimp only [setD, z0, z1]) | (apply WC.condD; (exact oD); (all_goals intro h); (all_goals try (exfalso; first | omega | contradiction))) | (apply WC.cond; (exact oD); (all_goals intro h); (all_goals try (exfalso; first | omega | contradiction))) | refine WC.skip ?_ | refine WC.ret ?_ | refine WC.exit ?_ | refine WC.block ?_ | refine ThenD.n ?_ | refine ThenD.r ?_ | refine InBlockD.r ?_)); all_goals (first | refine WC.id ?_ | refine WL.id ?_ | refine WDs.id ?_ | ((repeat clear hK); (repeat clear Kx))))
    · (refine ⟨trivial, _, rfl, ?_⟩; (first | exact fD | refine FinD.i ?_ | refine FinD.b ?_ | refine FinD.rowKE (.head _) ?_ | refine FinD.rowE (.head _) ?_ | refine FinD.nilKE (by decide) ?_ | refine FinD.nilE ?_ | refine FinD.s ?_))
      rw [h2, idxG_drop (by omega), if_pos h]
    · (refine ⟨k + 1, ?_, by first | omega | (simp only; omega), rfl, ?_⟩; rotate_left; ((try dsimp only [upds, z0, z1]); repeat (first | exact LeF.nil | refine LeF.cons (by first | with_reducible exact Dat.le_any _ | with_reducible exact Dat.le_refl _ | exact le_ii (by omega) | exact Dat.le_nil | exact Dat.le_nilK (by decide) | assumption | exact Dat.le_refl _ | exact le_eq (by simp)) ?_)); (try dsimp only))
      exact ⟨by omega, by rw [h2, idxG_drop (by omega), if_neg (by simp [h])]⟩
    · (refine ⟨trivial, _, rfl, ?_⟩; (first | exact fD | refine FinD.i ?_ | refine FinD.b ?_ | refine FinD.rowKE (.head _) ?_ | refine FinD.rowE (.head _) ?_ | refine FinD.nilKE (by decide) ?_ | refine FinD.nilE ?_ | refine FinD.s ?_))
      rw [h2, List.drop_of_length_le (by omega)]; rfl
theorem cntI_p (l : List Int) (p : Int → Bool) : Fn Tryz.prog 156 [dS Ints l, dPredI l p] (dB (l.any p)) := by
  (refine Fn.intro1 Tryz.func156 rfl rfl ?_; simp only [Tryz.ntmps156, List.length_cons, List.length_nil, Nat.reduceAdd, Nat.reduceSub, List.replicate_succ, List.replicate_zero, List.cons_append, List.nil_append])
  ((repeat' (first | (apply WL.opG; (focus (apply SYG.yes; (exact want_none rfl); (first | (apply SY.move <;> (exact oD)) | (apply SY.assign <;> (exact oD))))); dsimp only [setD, z0, z1]) | refine WL.nil ?_ | refine WC.seqK fun Kx hK => ?_ | (refine hK _ _ ?_; clear hK) | refine WC.region ?_ | (apply WL.opG; (focus (apply SYG.yes; (exact want_none rfl); ((first | (apply SY.call (idxI_p _ _) Tryz.call194; (exact aD)) | exact yGeq | fail); all_goals infer_instance))); dsimp only [setD, z0, z1]) | refine WC.ret ?_)); all_goals (first | refine WC.id ?_ | refine WL.id ?_ | refine WDs.id ?_ | ((repeat clear hK); (repeat clear Kx))))
  all_goals ((refine ⟨trivial, _, rfl, ?_⟩; (first | exact fD | refine FinD.i ?_ | refine FinD.b ?_ | refine FinD.rowKE (.head _) ?_ | refine FinD.rowE (.head _) ?_ | refine FinD.nilKE (by decide) ?_ | refine FinD.nilE ?_ | refine FinD.s ?_)); exact idxG_iff _ _)
end Go.Proofs.YtkedmlandjlogaaGreat
namespace Go.Proofs.YtkedmlandjlogaaGreat
open Go.RowKit
set_option linter.unusedSimpArgs false

set_option maxHeartbeats 2000000
set_option maxRecDepth 100000
def covI (l : Cx) (s : List Vx) (i : Int) : Bool := decide (s.length < (l.getD i.toNat []).length) && faceG s (l.getD i.toNat [])
theorem cov1_p (l : Cx) (s : List Vx) (i : Int) (h0 : 0 ≤ i) (h1 : i < l.length) : Fn Tryz.prog 157 ([dI i] ++ [dP 1 false (dS Simps l), dP 1 false (dS Verts s)]) (dB (covI l s i)) := by
  obtain ⟨k, rfl⟩ : ∃ k : Nat, i = k := ⟨i.toNat, by omega⟩
  have hk : k < l.length := by omega
  have e : covI l s (k : Int) = (decide (s.length < l[k].length) && faceG s l[k]) := by
    unfold covI
    rw [Int.toNat_natCast, show l.getD k [] = l[k] by simp [List.getD, hk]]
  rw [e]
  show Fn Tryz.prog 157 [dI (k : Int), dP 1 false (dS Simps l), dP 1 false (dS Verts s)] _
  (refine Fn.intro1 Tryz.func157 rfl rfl ?_; simp only [Tryz.ntmps157, List.length_cons, List.length_nil, Nat.reduceAdd, Nat.reduceSub, List.replicate_succ, List.replicate_zero, List.cons_append, List.nil_append])
  ((repeat' (first | ((first | apply WL.opG | apply WD.op); (focus (apply SYG.yes; (exact want_none rfl); (first | (apply SY.move <;> (exact oD)) | (apply SY.assign <;> (exact oD)) | (apply SY.load; (exact tD); (exact OpD.t rfl))))); dsimp only [setD, z0, z1]) | refine WL.nil ?_ | refine WD.nil ?_ | refine WC.seqK fun Kx hK => ?_ | (refine hK _ _ ?_; clear hK) | refine WC.region ?_ | (apply WC.draw; kernel_rfl; kernel_rfl) | ((first | apply WL.opG | apply WD.op); (focus (first | (apply SYG.no; first | exact want_notT rfl rfl rfl (by with_reducible rfl) | exact want_notF rfl rfl rfl (by with_reducible rfl)) | (apply SYG.yes; (first | exact want_none rfl | exact want_yes rfl rfl rfl (by with_reducible rfl)); ((first | (apply SY.call (face27_p _ _) Tryz.call148; (exact aD)) | exact yMove | exact yGtr | exact yLoad | exact yLen | exact yIndexaddr | exact yPick | fail); all_goals infer_instance)))); dsimp only [setD, z0, z1]) | ((first | refine WL.caseP rfl rfl rfl (fun h => ?_) (fun h => ?_) | refine WL.caseN rfl rfl rfl (fun h => ?_) (fun h => ?_) | refine WL.caseB rfl rfl rfl (fun h => ?_) (fun h => ?_) | refine WD.caseP rfl rfl rfl (fun h => ?_) (fun h => ?_) | refine WD.caseN rfl rfl rfl (fun h => ?_) (fun h => ?_) | refine WD.caseB rfl rfl rfl (fun h => ?_) (fun h => ?_)) <;> (first | (exfalso; first | omega | contradiction) | (dsimp only [z0, z1]))) | refine WC.ret ?_)); all_goals (first | refine WC.id ?_ | refine WL.id ?_ | refine WDs.id ?_ | ((repeat clear hK); (repeat clear Kx))))
  · rw [decide_eq_true (show s.length < l[k].length by omega), Bool.true_and]
    (refine ⟨trivial, _, rfl, ?_⟩; (first | exact fD | refine FinD.i ?_ | refine FinD.b ?_ | refine FinD.rowKE (.head _) ?_ | refine FinD.rowE (.head _) ?_ | refine FinD.nilKE (by decide) ?_ | refine FinD.nilE ?_ | refine FinD.s ?_))
  · rw [decide_eq_false (show ¬ s.length < l[k].length by omega), Bool.false_and]
    (refine ⟨trivial, _, rfl, ?_⟩; (first | exact fD | refine FinD.i ?_ | refine FinD.b ?_ | refine FinD.rowKE (.head _) ?_ | refine FinD.rowE (.head _) ?_ | refine FinD.nilKE (by decide) ?_ | refine FinD.nilE ?_ | refine FinD.s ?_))
abbrev MemI (l : List Int) := {v : Int // v ∈ l}
theorem coveredP_p (l : Cx) (at' : List Int) (s : List Vx) (hat : ∀ i ∈ at', 0 ≤ i ∧ i < l.length) : Fn Tryz.prog 94 [dS Simps l, dS Ints at', dS Verts s] (dB (at'.any (covI l s))) := by
  (refine Fn.intro1 Tryz.func94 rfl rfl ?_; simp only [Tryz.ntmps94, List.length_cons, List.length_nil, Nat.reduceAdd, Nat.reduceSub, List.replicate_succ, List.replicate_zero, List.cons_append, List.nil_append])
  ((repeat' (first | (apply WL.opG; (focus (apply SYG.yes; (exact want_none rfl); (first | (apply SY.move <;> (exact oD)) | (apply SY.assign <;> (exact oD))))); dsimp only [setD, z0, z1]) | refine WL.nil ?_ | refine WC.seqK fun Kx hK => ?_ | (refine hK _ _ ?_; clear hK) | refine WC.region ?_ | (apply WL.opG; (focus (apply SYG.yes; (exact want_none rfl); ((first | (apply SY.makeFun (A := fun v : MemI at' => [dI v.1]) (r := fun v => dB (covI l s v.1)) Tryz.call157 (fun v => cov1_p l s v.1 (hat v.1 v.2).1 (hat v.1 v.2).2) (fun _ => bare_B); (exact aD)) | (apply SY.call (cntI_p at' (covI l s)) Tryz.call156; (exact aD)) | exact yBox | fail); all_goals infer_instance))); dsimp only [setD, z0, z1]) | refine WC.ret ?_)); all_goals (first | refine WC.id ?_ | refine WL.id ?_ | refine WDs.id ?_ | ((repeat clear hK); (repeat clear Kx))))
  all_goals (refine ⟨trivial, _, rfl, ?_⟩; (first | exact fD | refine FinD.i ?_ | refine FinD.b ?_ | refine FinD.rowKE (.head _) ?_ | refine FinD.rowE (.head _) ?_ | refine FinD.nilKE (by decide) ?_ | refine FinD.nilE ?_ | refine FinD.s ?_))
end Go.Proofs.YtkedmlandjlogaaGreat
namespace Go.Proofs.YtkedmlandjlogaaGreat
open Go.RowKit
set_option linter.unusedSimpArgs false

set_option maxHeartbeats 2000000
set_option maxRecDepth 100000
theorem CallC.nil1 {P : Program} {f : FuncId} {ds : List Dat} {hp1 : List HObj} {e : TypeId} {α : Type} {R : Rel α} {_gR : Good R} {xs : List α} (h : CallC P f ds hp1 fun d' hp2 => ∃ v, d' = dX v ∧ (hp2 = [hRow v e R xs] ∨ v = .slice none 0 0 ∧ xs = [] ∧ hp2 = [])) : CallC P f ds hp1 fun d' hp2 => ∃ v, d' = dX v ∧ hp2 = [hRow v e R xs] := ⟨fun P0 B w0 hp vs W hh hl hv => by
  refine Calls.mono (h.out P0 B w0 hp vs W hh hl hv) fun e' W' ⟨v, d, hp2, he, hk, hh2, hd⟩ => ?_
  obtain ⟨u, hdu, hk⟩ := hk
  rcases hk with rfl | ⟨rfl, rfl, rfl⟩
  · exact ⟨v, d, _, he, ⟨u, hdu, rfl⟩, hh2, hd⟩
  · exact ⟨v, d, [hRow (.slice none 0 0) e R []], he, ⟨_, hdu, rfl⟩, hh2.push (Ext.refl _) (by simp [hRow, Value.ownBlock]) Own.nil, Hp.pushed (Ext.refl _) (by simp [hRow, Value.ownBlock]) hd⟩⟩
theorem eqNilS : ∀ (x y : Operand) ad m c w, (do eqGuard .eql 22 x y (.slice ad m c) (.slice none 0 0); Go.binOp .eql 22 (.slice ad m c) (.slice none 0 0)).run Tryz.prog w = .ok (.bool ad.isNone) w := by
  intro x y ad m c w
  cases ad <;> (go_simp; try (unfold Go.binOp; simp only; unfold Op.equal Op.maxDepth Op.equalIn; simp [run_underlying Tryz.underlying22]))
theorem nil_A {α : Type} {R : Rel α} [Good R] {xs : List α} {I : Nat → Prop} {w : World} {v : Value} (h : (dS (Arr R) xs).rd I w v) : ∃ a m c, v = .slice a m c ∧ (a = none → m = 0) := by
  obtain ⟨ad, cap, rfl, h1, h2, h3⟩ := (h : Arr R I w v xs)
  refine ⟨_, _, _, rfl, fun hn => ?_⟩
  rcases Nat.eq_zero_or_pos xs.length with hz | hz
  · exact hz
  · obtain ⟨us, b, off, _, _, had, _, _⟩ := h3 0 hz
    rw [hn] at had; cases had
theorem clone_s (xs : Cx) (hl : xs.length ≤ 1000000) : CallC Tryz.prog 80 [dS Simps xs] [] fun d' hp2 => ∃ v, d' = dX v ∧ hp2 = [hRow v 32 Verts xs] := by
  refine CallC.nil1 ?_
  (refine CallC.intro Tryz.func80 rfl rfl (fun hp => ?_); simp only [Tryz.ntmps80, List.length_cons, List.length_nil, List.length_append, List.length_map, Nat.reduceAdd, Nat.reduceSub, List.replicate_succ, List.replicate_zero, List.cons_append, List.nil_append, List.map_cons, List.map_nil, List.append_assoc])
  ((repeat' (first |  (refine WL.openE 4 rfl fun b hb => ?_; dsimp only [z0, z1]) | (apply WL.opG; (focus (apply SYG.yes; (exact want_none rfl); (first | (apply SY.move <;> (exact oD)) | (apply SY.assign <;> (exact oD))))); dsimp only [setD, z0, z1]) | refine WL.nil ?_ | refine WC.seqK fun Kx hK => ?_ | (refine hK _ _ ?_; clear hK) | refine WC.region ?_ |  (apply WL.build01 elSi Verts; (intro _; dsimp only [setD, z0, z1]); all_goals (try infer_instance)) | ((first | apply WL.appK | apply WL.app1); (exact eD); exact OpD.t rfl; (exact oD); decide; (exact lD); (intro _; dsimp only [setD, z0, z1]); all_goals (try infer_instance)) | (apply WL.opG; (focus (apply SYG.yes; (exact want_none rfl); ((first | (apply SY.eqNil; exact OpD.t rfl; (exact fun _ _ _ h => nil_A h); exact len_A; exact eqNilS) | fail); all_goals infer_instance))); dsimp only [setD, z0, z1]) | (apply WC.cond; (exact oD); (all_goals intro h); (all_goals try (exfalso; first | omega | contradiction))) | refine WC.skip ?_ | refine WC.ret ?_ | refine ThenD.r ?_)); all_goals (first | refine WC.id ?_ | refine WL.id ?_ | refine WDs.id ?_ | ((repeat clear hK); (repeat clear Kx))))
  · exact ⟨trivial, _, [], rfl, rfl, _, rfl, .inr ⟨rfl, hb h, rfl⟩⟩
  · exact ⟨trivial, _, [_], rfl, rfl, _, rfl, .inl (by rw [List.nil_append])⟩
abbrev dEqL : Dat := dFun Tryz.prog (fun x : List Vx × List Vx => [dS Verts x.1, dS Verts x.2]) (fun x => dB (decide (x.1 = x.2)))
set_option maxHeartbeats 4000000 in
theorem compact_s (xs : Cx) (v : Value) (hs : SortL xs) (hl : xs.length ≤ 1000000) : CallC Tryz.prog 143 [dX v, dEqL] [hRow v 32 Verts xs] fun d' hp2 => ∃ v zs, (AscL zs ∧ ∀ u, u ∈ zs ↔ u ∈ xs) ∧ d' = dX v ∧ hp2 = [hRow v 32 Verts zs] := by
  (refine CallC.intro Tryz.func143 rfl rfl (fun hp => ?_); simp only [Tryz.ntmps143, List.length_cons, List.length_nil, List.length_append, List.length_map, Nat.reduceAdd, Nat.reduceSub, List.replicate_succ, List.replicate_zero, List.cons_append, List.nil_append, List.map_cons, List.map_nil, List.append_assoc])
  rcases Nat.lt_or_ge xs.length 2 with hx | hx
  · have ha : AscL xs := by
      match xs, hx with
      | [], _ => simp [AscL]
      | [x], _ => simp [AscL]
      | x :: y :: l, hx => simp at hx; omega
    ((repeat' (first | ((first | apply WL.opG | apply WD.op); (focus (apply SYG.yes; (exact want_none rfl); (first | (apply SY.move <;> (exact oD)) | (apply SY.assign <;> (exact oD)) | (apply SY.load; (exact tD); (exact OpD.t rfl))))); dsimp only [setD, z0, z1]) | refine WL.nil ?_ | refine WC.seqK fun Kx hK => ?_ | (refine hK _ _ ?_; clear hK) | refine WC.region ?_ | ((first | apply WL.opG | apply WD.op); (focus (apply SYG.yes; (exact want_none rfl); ((first | exact yLss | exact yLen | fail); all_goals infer_instance))); dsimp only [setD, z0, z1]) | (apply WC.condD; (exact oD); (all_goals intro h); (all_goals try (exfalso; first | omega | contradiction))) | refine WC.ret ?_ | refine ThenD.r ?_)); all_goals (first | refine WC.id ?_ | refine WL.id ?_ | refine WDs.id ?_ | ((repeat clear hK); (repeat clear Kx))))
    exact ⟨trivial, _, [_], rfl, rfl, _, xs, ⟨ha, fun _ => Iff.rfl⟩, rfl, rfl⟩
  refine WC.openQ (by omega) fun b cap hv hc1 hc2 => ?_
  subst hv
  ((repeat' (first | ((first | apply WL.opG | apply WD.op); (focus (apply SYG.yes; (exact want_none rfl); (first | (apply SY.move <;> (exact oD)) | (apply SY.assign <;> (exact oD)) | (apply SY.load; (exact tD); (exact OpD.t rfl))))); dsimp only [setD, z0, z1]) | refine WL.nil ?_ | refine WC.seqK fun Kx hK => ?_ | (refine hK _ _ ?_; clear hK) | refine WC.region ?_ | ((first | apply WL.opG | apply WD.op); (focus (apply SYG.yes; (exact want_none rfl); ((first | exact yLss | exact yLen | fail); all_goals infer_instance))); dsimp only [setD, z0, z1]) | (apply WC.condD; (exact oD); (all_goals intro h); (all_goals try (exfalso; first | omega | contradiction))) | refine WC.skip ?_ | refine WC.block ?_)); all_goals (first | refine WC.id ?_ | refine WL.id ?_ | refine WDs.id ?_ | ((repeat clear hK); (repeat clear Kx))))
  simp only [maxLen] at hc2
  (refine WC.loopU (X := Nat) (fun k => [(5, dI (k : Int)), (4, dA), (6, dA), (7, dA), (12, dA), (13, dA), (14, dA), (15, dA), (16, dA), (17, dA), (18, dA), (19, dA), (20, dA), (21, dA), (22, dA), (23, dA), (24, dA), (25, dA), (26, dA), (27, dA), (28, dA), (29, dA), (30, dA), (31, dA), (32, dA), (33, dA), (34, dA), (35, dA), (36, dA), (37, dA), (38, dA), (39, dA), (40, dA), (41, dA), (42, dA), (43, dA), (44, dA), (45, dA), (46, dA), (47, dA), (48, dA), (49, dA), (50, dA), (51, dA), (52, dA), (53, dA), (54, dA), (55, dA), (56, dA), (57, dA), (58, dA), (59, dA), (60, dA), (61, dA), (62, dA), (63, dA), (64, dA)]) (fun k => (hQ b xs.length cap 32 Verts xs :: hp)) (fun k => xs.length - k) (fun k => 1 ≤ k ∧ k ≤ xs.length ∧ GoodL xs k (xs.take k)) 1 ?start ?frame0 ?objs0 ?round)
  case start => exact ⟨Nat.le_refl _, by omega, goodL_start (by omega)⟩
  case frame0 => ((try dsimp only [upds, z0, z1]); repeat (first | exact LeF.nil | refine LeF.cons (by first | with_reducible exact Dat.le_any _ | with_reducible exact Dat.le_refl _ | exact le_ii (by omega) | exact Dat.le_nil | exact Dat.le_nilK (by decide) | assumption | exact Dat.le_refl _ | exact le_eq (by simp)) ?_))
  case objs0 => rfl
  case round =>
    rintro k ⟨h1, h2, h3⟩
    dsimp only [upds, z0, z1]
    ((repeat' (first | ((first | apply WL.opG | apply WD.op); (focus (apply SYG.yes; (exact want_none rfl); (first | (apply SY.move <;> (exact oD)) | (apply SY.assign <;> (exact oD)) | (apply SY.load; (exact tD); (exact OpD.t rfl))))); dsimp only [setD, z0, z1]) | refine WL.nil ?_ | refine WD.nil ?_ | refine WC.seqK fun Kx hK => ?_ | (refine hK _ _ ?_; clear hK) | (refine Kont.skip ?_; clear hK) | refine WC.region ?_ | (apply WC.draw; kernel_rfl; kernel_rfl) | ((first | apply WL.opG | apply WD.op); (focus (apply SYG.yes; (exact want_none rfl); ((first | (apply SY.ixQ (k := k) elSi; exact OpD.t rfl; exact OpD.t rfl; rfl; omega) | (apply SY.ixQ (k := k - 1) elSi; exact OpD.t rfl; exact OpD.t rfl; omega; omega) | (apply SY.loadQ (k := k) tySi; exact OpD.t rfl; exact .head _; omega; omega) | (apply SY.loadQ (k := k - 1) tySi; exact OpD.t rfl; exact .head _; omega; omega) | (apply SY.dynF (x := ((xs[k], xs[k - 1]) : List Vx × List Vx)); (exact OpD.t rfl); (exact aD)) | (apply SY.fromQ (l := k) elSi; exact OpD.t rfl; exact OpD.t rfl; rfl; omega; omega) | exact yLss | exact yAdd | exact ySub | exact yLen | fail); all_goals infer_instance))); dsimp only [setD, z0, z1]) | (apply WC.condD; (exact oD); (all_goals intro h); (all_goals try (exfalso; first | omega | contradiction))) | refine WC.skip ?_ | refine WC.ret ?_ | refine WC.exit ?_ | refine WC.block ?_ | refine ThenD.n ?_)); all_goals (first | refine WC.id ?_ | refine WL.id ?_ | refine WDs.id ?_ | ((repeat clear hK); (repeat clear Kx))))
    · have hk : k < xs.length := by omega
      have hg := goodL_skip h3 h1 hk h
      (refine WC.loopU (X := Nat × Nat × Cx) (fun x => [(5, dI (x.2.1 : Int)), (7, dI (x.1 : Int)), (32, dA), (33, dA), (34, dA), (35, dA), (36, dA), (37, dA), (38, dA), (39, dA), (40, dA), (41, dA), (42, dA), (43, dA), (44, dA), (45, dA), (46, dA), (47, dA), (48, dA), (49, dA), (50, dA), (51, dA), (52, dA), (53, dA), (54, dA), (55, dA), (56, dA), (57, dA), (58, dA)]) (fun x => (hQ b xs.length cap 32 Verts x.2.2 :: hp)) (fun x => xs.length - k - x.1) (fun x => 1 ≤ x.1 ∧ k + x.1 ≤ xs.length ∧ x.2.1 + 1 ≤ k + x.1 ∧ x.2.2.length = xs.length ∧ GoodL xs (k + x.1) (x.2.2.take x.2.1) ∧ x.2.2.drop (k + x.1 - 1) = xs.drop (k + x.1 - 1)) (1, k, xs) ?start ?frame0 ?objs0 ?round)
      case start => exact ⟨Nat.le_refl _, by omega, Nat.le_refl _, rfl, hg, rfl⟩
      case frame0 => ((try dsimp only [upds, z0, z1]); repeat (first | exact LeF.nil | refine LeF.cons (by first | with_reducible exact Dat.le_any _ | with_reducible exact Dat.le_refl _ | exact le_ii (by omega) | exact Dat.le_nil | exact Dat.le_nilK (by decide) | assumption | exact Dat.le_refl _ | exact le_eq (by simp)) ?_))
      case objs0 => rfl
      case round =>
        rintro ⟨m, i, ys⟩ ⟨q1, q2, q3, q4, q5, q6⟩
        dsimp only [upds, z0, z1]
        simp only at q1 q2 q3 q4 q5 q6
        have hget : ∀ (j : Nat) (hj : k + m - 1 ≤ j) (hj' : j < xs.length), ys[j]'(by omega) = xs[j] := fun j hj hj' => by
          have e1 := congrArg (fun l => l[j - (k + m - 1)]?) q6
          simp only [List.getElem?_drop] at e1
          rw [show k + m - 1 + (j - (k + m - 1)) = j by omega, List.getElem?_eq_getElem (by omega), List.getElem?_eq_getElem hj'] at e1
          exact Option.some.inj e1
        ((repeat' (first | ((first | apply WL.opG | apply WD.op); (focus (apply SYG.yes; (exact want_none rfl); (first | (apply SY.move <;> (exact oD)) | (apply SY.assign <;> (exact oD)) | (apply SY.load; (exact tD); (exact OpD.t rfl))))); dsimp only [setD, z0, z1]) | refine WL.nil ?_ | refine WD.nil ?_ | refine WC.seqK fun Kx hK => ?_ | (refine hK _ _ ?_; clear hK) | (refine Kont.skip ?_; clear hK) | refine WC.region ?_ | (apply WC.draw; kernel_rfl; kernel_rfl) |  (apply WL.storeQ (k := i) tySi; exact OpD.t rfl; exact OpD.t rfl; exact shape_K; omega; omega; dsimp only [setD, z0, z1]) |  (apply WL.clearQ (k := i) (n := xs.length - i) (x0 := ([] : List Vx)) Tryz.underlying22 Tryz.zeroValue32 rfl (fun _ _ => ArrK.nil' (by decide)); exact OpD.t rfl; omega; omega; omega; dsimp only [setD, z0, z1]) |  (apply WL.uptoC1 (l := i) elSi; exact OpD.t rfl; exact OpD.t rfl; rfl; omega; omega; omega; (simp; omega); dsimp only [setD, z0, z1]) | ((first | apply WL.opG | apply WD.op); (focus (apply SYG.yes; (exact want_none rfl); ((first | (apply SY.ixQ (k := m) elSi; exact OpD.t rfl; exact OpD.t rfl; rfl; omega) | (apply SY.ixQ (k := m - 1) elSi; exact OpD.t rfl; exact OpD.t rfl; omega; omega) | (apply SY.ixQ (k := i) elSi; exact OpD.t rfl; exact OpD.t rfl; rfl; omega) | (apply SY.loadQ (k := k + m) tySi; exact OpD.t rfl; exact .head _; omega; omega) | (apply SY.loadQ (k := k + m - 1) tySi; exact OpD.t rfl; exact .head _; omega; omega) | (apply SY.dynF (x := ((ys[k + m], ys[k + m - 1]) : List Vx × List Vx)); (exact OpD.t rfl); (exact aD)) | (apply SY.fromQ (l := i) elSi; exact OpD.t rfl; exact OpD.t rfl; rfl; omega; omega) | exact yLss | exact yNot | exact yAdd | exact ySub | exact yLen | fail); all_goals infer_instance))); dsimp only [setD, z0, z1]) | (apply WC.condD; (exact oD); (all_goals intro h); (all_goals try (exfalso; first | omega | contradiction))) | (apply WC.condN; (exact oD); (all_goals intro h); (all_goals try (exfalso; first | omega | contradiction))) | refine WC.skip ?_ | refine WC.ret ?_ | refine WC.exit ?_ | refine WC.block ?_ | refine ThenD.n ?_ | refine ThenD.r ?_ | refine InBlockD.r ?_)); all_goals (first | refine WC.id ?_ | refine WL.id ?_ | refine WDs.id ?_ | ((repeat clear hK); (repeat clear Kx))))
        · have hkm : k + m < xs.length := by omega
          have e1 : ys[k + m]'(by omega) = xs[k + m] := hget _ (by omega) hkm
          have e2 : ys[k + m - 1]'(by omega) = xs[k + m - 1] := hget _ (by omega) (by omega)
          rw [e1, e2] at h
          rw [e1]
          (refine ⟨(m + 1, i + 1, ys.set i xs[k + m]), ?_, by first | omega | (simp only; omega), rfl, ?_⟩; rotate_left; ((try dsimp only [upds, z0, z1]); repeat (first | exact LeF.nil | refine LeF.cons (by first | with_reducible exact Dat.le_any _ | with_reducible exact Dat.le_refl _ | exact le_ii (by omega) | exact Dat.le_nil | exact Dat.le_nilK (by decide) | assumption | exact Dat.le_refl _ | exact le_eq (by simp)) ?_)); (try dsimp only))
          refine ⟨by omega, by omega, by omega, by simpa using q4, ?_, ?_⟩
          · have := goodL_push hs q5 (by omega) hkm h
            rw [Nat.add_assoc] at this
            have e3 : (ys.set i xs[k + m]).take (i + 1) = ys.take i ++ [xs[k + m]] := by
              rw [take_snoc' (by simp; omega), List.take_set_of_le (by omega)]
              simp
            rw [e3]; exact this
          · rw [show k + (m + 1) - 1 = (k + m - 1) + 1 by omega]
            have e4 : (ys.set i xs[k + m]).drop (k + m - 1 + 1) = ys.drop (k + m - 1 + 1) := by rw [List.drop_set_of_lt (by omega)]
            rw [e4]
            have := congrArg (List.drop 1) q6
            simpa [List.drop_drop] using this
        · have hkm : k + m < xs.length := by omega
          have e1 : ys[k + m]'(by omega) = xs[k + m] := hget _ (by omega) hkm
          have e2 : ys[k + m - 1]'(by omega) = xs[k + m - 1] := hget _ (by omega) (by omega)
          rw [e1, e2] at h
          (refine ⟨(m + 1, i, ys), ?_, by first | omega | (simp only; omega), rfl, ?_⟩; rotate_left; ((try dsimp only [upds, z0, z1]); repeat (first | exact LeF.nil | refine LeF.cons (by first | with_reducible exact Dat.le_any _ | with_reducible exact Dat.le_refl _ | exact le_ii (by omega) | exact Dat.le_nil | exact Dat.le_nilK (by decide) | assumption | exact Dat.le_refl _ | exact le_eq (by simp)) ?_)); (try dsimp only))
          refine ⟨by omega, by omega, by omega, q4, ?_, ?_⟩
          · have := goodL_skip q5 (by omega) hkm h
            rw [Nat.add_assoc] at this
            exact this
          · have := congrArg (List.drop 1) q6
            rw [List.drop_drop, List.drop_drop] at this
            rw [show k + (m + 1) - 1 = k + m - 1 + 1 by omega]
            exact this
        · have e1 : (ys.take i ++ List.replicate (xs.length - i) ([] : List Vx)).take i = ys.take i := by
            rw [List.take_left' (by simp; omega)]
          rw [e1]
          exact ⟨trivial, _, [_], rfl, rfl, _, _, goodL_end q5 (by omega), rfl, rfl⟩
    · (refine ⟨k + 1, ?_, by first | omega | (simp only; omega), rfl, ?_⟩; rotate_left; ((try dsimp only [upds, z0, z1]); repeat (first | exact LeF.nil | refine LeF.cons (by first | with_reducible exact Dat.le_any _ | with_reducible exact Dat.le_refl _ | exact le_ii (by omega) | exact Dat.le_nil | exact Dat.le_nilK (by decide) | assumption | exact Dat.le_refl _ | exact le_eq (by simp)) ?_)); (try dsimp only))
      refine ⟨by omega, by omega, ?_⟩
      rw [take_snoc' (by omega)]
      exact goodL_push hs h3 h1 (by omega) h
    · have e1 : xs.take k = xs := List.take_of_length_le (by omega)
      rw [e1] at h3
      exact ⟨trivial, _, [_], rfl, rfl, _, xs, goodL_end h3 (by omega), rfl, rfl⟩
end Go.Proofs.YtkedmlandjlogaaGreat
