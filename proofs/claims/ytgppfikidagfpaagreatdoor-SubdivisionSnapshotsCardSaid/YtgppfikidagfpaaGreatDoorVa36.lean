/-
  Part 36 of the texts that the claims of this seat lean on: walks of the program's functions by contracts over symbolic frames, and plain laws of what they compute. No condition.
-/
import Derived.Test.YtgppfikidagfpaaGreatDoorVa15
import Derived.Test.YtgppfikidagfpaaGreatDoorVa32
import Derived.Test.YtgppfikidagfpaaGreatDoorVa35
set_option linter.unusedVariables false
set_option linter.unusedSimpArgs false
set_option linter.unusedSectionVars false
namespace Go.Proofs.YtgppfikidagfpaaGreatDoor
open Go.RowKit
section
variable {P : Program} {ops : Array Oper} {hp : List HObj} {fr : List Dat} {d e : Dat} {dst : Option Tmp} {ty : TypeId} {ps : String} {af : Array Edge} {g : Option (Nat × Bool)} {T T1 T2 : TypeId} {x y : Operand}
theorem SY.remE' {p q c : Int} (h : p.tmod q = c) (h0 : q ≠ 0) (hx : OpD fr x (dI p)) (hy : OpD fr y (dI q)) : SY P ops hp { dst := dst, op := .binOp .rem T x y T2, type := ty, pos := ps, after := af, guard := g } fr (dI c) := h ▸ SY.rem hx hy h0
theorem tmod_nat' (a b : Nat) : ((a : Int)).tmod (b : Int) = ((a % b : Nat) : Int) := by
  rw [Int.tmod_eq_emod_of_nonneg (by omega)]
  rfl
theorem SY.loadCx' {l : Cx} (T' : TyI P T1 1 true) (hx : OpD fr x (dP 1 false (dS Simps l))) : SY P ops hp { dst := dst, op := .load T1 x, type := ty, pos := ps, after := af, guard := g } fr (dS Cpx l) := SY.val fun {I w a} ho => by
  obtain ⟨b, off, u, h1, ⟨hb, cs, k1, k0, k2, k3, k4⟩, hu⟩ := hx.get (by simp [Op.operands]) ho
  simp only [Bool.false_eq_true, if_false] at k4
  subst k4
  have hc : Cells I w b off 1 true (.agg #[u]) := ⟨hb, [u], rfl, Nat.one_pos, k2, k3, rfl⟩
  refine ⟨.agg #[u], ?_, u, rfl, k2 u (by simp), hu⟩
  unfold execOp
  simp only [h1, Sem.run_bind, run_loadC T' hc, Result.andThen_ok, Sem.run_pure]
theorem SY.fldD {n : Nat} (S : StrT P T n) (hn : 0 < n) (hx : OpD fr x (dP 1 false d)) : SY P ops hp { dst := dst, op := .fieldAddr T x 0, type := ty, pos := ps, after := af, guard := g } fr (dP 1 false d) := SY.val fun {I w a} ho => by
  obtain ⟨b, off, u, h1, h2, h3⟩ := hx.get (by simp [Op.operands]) ho
  refine ⟨.pointer (some ⟨b, off, none⟩), ?_, b, off, u, rfl, h2, h3⟩
  unfold execOp
  simp only [h1, Sem.run_bind, S.fld b off 0 w hn, Result.andThen_ok, Sem.run_pure]
  rfl
theorem SY.ixE {i : Operand} {t e : TypeId} {z : Value} {bytes n : Nat} {ag : Bool} (E : ElT P t e n z bytes ag) {α : Type} {R : Rel α} {_gR : Good R} {xs : List α} {k : Nat} {v : α} (hk : k < xs.length) (hv : xs[k] = v) (hx : OpD fr x (dS (ArrK n R) xs)) (hi : OpD fr i (dI (k : Int))) : SY P ops hp { dst := dst, op := .indexAddr t x i, type := ty, pos := ps, after := af, guard := g } fr (dP n true (dS R v)) := hv ▸ SY.ixK E hx hi hk
end
set_option linter.unusedSimpArgs false

set_option maxHeartbeats 2000000
set_option maxRecDepth 100000
theorem strCx : StrT Tryz.prog 39 1 := ⟨fun b off i w hi => by
  have : i = 0 := by omega
  subst this
  go_simp⟩
theorem snapC_p (p q : List Vx) : Fn Tryz.prog 25 [dS Verts q, dP 1 false (dS Verts p)] (dB (decide (p = q))) := by
  (refine Fn.intro1 Tryz.func25 rfl rfl ?_; simp only [Tryz.ntmps25, List.length_cons, List.length_nil, Nat.reduceAdd, Nat.reduceSub, List.replicate_succ, List.replicate_zero, List.cons_append, List.nil_append])
  ((repeat' (first | (apply WL.opN; exact yF; dsimp only [setD, z0, z1]) | refine WL.nil ?_ | refine WC.seqK fun Kx hK => ?_ | (refine hK _ _ ?_; clear hK) | (refine Kont.skip ?_; clear hK) | refine WC.region ?_ | (apply WL.opN; (focus ((first | (apply SY.call (eqV_p p q) Tryz.call26; (exact aD)) | ((first | apply SY.move | apply SY.assign) <;> (exact oD)) | (apply SY.load; (exact tD); (exact oD)) | fail); all_goals infer_instance)); dsimp only [setD, z0, z1]) | refine WC.skip ?_ | refine WC.ret ?_ | refine ThenD.n ?_ | refine ThenD.r ?_)); all_goals (first | refine WC.id ?_ | refine WL.id ?_ | ((repeat clear hK); (repeat clear Kx))))
  (refine ⟨trivial, _, rfl, ?_⟩; (first | exact fD | refine FinD.i ?_ | refine FinD.b ?_ | refine FinD.rowKE (.head _) ?_ | refine FinD.rowE (.head _) ?_ | refine FinD.nilKE (by decide) ?_ | refine FinD.nilE ?_ | refine FinD.s ?_))
abbrev dPredT (l : Cx) (p : List Vx → Bool) : Dat := dFun Tryz.prog (fun i : {i : List Vx // i ∈ l} => [dS Verts i.1]) (fun i => dB (p i.1))
theorem idxT_p (l : Cx) (p : List Vx → Bool) : Fn Tryz.prog 75 [dS Simps l, dPredT l p] (dI (idxG p 0 l)) := by
  (refine Fn.intro1 Tryz.func75 rfl rfl ?_; simp only [Tryz.ntmps75, List.length_cons, List.length_nil, Nat.reduceAdd, Nat.reduceSub, List.replicate_succ, List.replicate_zero, List.cons_append, List.nil_append])
  ((repeat' (first | (apply WL.opN; exact yF; dsimp only [setD, z0, z1]) | refine WL.nil ?_ | refine WC.seqK fun Kx hK => ?_ | (refine hK _ _ ?_; clear hK) | (refine Kont.skip ?_; clear hK) | refine WC.region ?_ | (apply WL.opN; (focus ((first | ((first | apply SY.move | apply SY.assign | apply SY.lss) <;> (exact oD)) | ((first | apply SY.add) <;> first | exact oD | omega) | (apply SY.load; (exact tD); (exact oD)) | (apply SY.len; (exact oD); (exact nD); (exact uD)) | (apply SY.lenRK; exact OpD.t rfl; (first | exact .head _ | exact .tail _ (.head _)); (exact uD)) | (apply SY.lenR; exact OpD.t rfl; (first | exact .head _ | exact .tail _ (.head _)); (exact uD)) | (apply SY.ixK; (exact eD); (exact oD); (exact oD); exact kD) | (apply SY.ix; (exact eD); (exact oD); (exact oD); exact kD) | (apply SY.dynF; (exact OpD.t rfl); (exact aD)) | fail); all_goals infer_instance)); dsimp only [setD, z0, z1]) | (apply WC.condT; (exact oD); (with_reducible rfl)) | (apply WC.condF; (exact oD); (with_reducible rfl)) | (apply WC.condD; (exact oD); all_goals (intro h; try exact xD)) | (apply WC.condN; (exact oD); all_goals (intro h; try exact xD)) | (apply WC.condNB; (exact oD); all_goals (intro h; try exact xD)) | (apply WC.cond; (exact oD); all_goals (intro h; try exact xD)) | refine WC.skip ?_ | refine WC.ret ?_ | refine WC.exit ?_ | refine WC.block ?_ | refine ThenD.n ?_ | refine ThenD.r ?_ | refine ThenD.x ?_ | refine InBlockD.x ?_ | refine InBlockD.n ?_ | refine InBlockD.r ?_ | refine InBlockD.y (by decide) ?_)); all_goals (first | refine WC.id ?_ | refine WL.id ?_ | ((repeat clear hK); (repeat clear Kx))))
  (first | refine WC.know (t := 0) rfl le_K fun hl0 => ?_ | refine WC.know (t := 0) rfl le_A fun hl0 => ?_ | refine WC.know (t := 0) rfl le_C fun hl0 => ?_); simp only [maxLen] at hl0
  (refine WC.loopU (X := Nat) (fun k => [(8, dI (k : Int)), (4, dA), (5, dA), (9, dA), (10, dA), (11, dA), (12, dA), (13, dA), (14, dA), (15, dA), (16, dA), (17, dA), (18, dA)]) (fun k => []) (fun k => l.length - k) (fun k => k ≤ l.length ∧ idxG p 0 l = idxG p k (l.drop k)) 0 ?start ?frame0 ?objs0 ?round)
  case start => exact ⟨Nat.zero_le _, rfl⟩
  case frame0 => ((try dsimp only [upds, z0, z1]); repeat (first | exact LeF.nil | refine LeF.co (k := ?_)))
  case objs0 => rfl
  case round =>
    rintro k ⟨h1, h2⟩
    dsimp only [upds, z0, z1]
    ((repeat' (first | (apply WL.opN; exact yF; dsimp only [setD, z0, z1]) | refine WL.nil ?_ | refine WC.seqK fun Kx hK => ?_ | (refine hK _ _ ?_; clear hK) | (refine Kont.skip ?_; clear hK) | refine WC.region ?_ | (apply WL.opN; (focus ((first | (apply SY.dynF (x := (⟨l[k], List.getElem_mem _⟩ : {i : List Vx // i ∈ l})); (exact OpD.t rfl); (exact aD)) | ((first | apply SY.move | apply SY.assign | apply SY.lss) <;> (exact oD)) | ((first | apply SY.add) <;> first | exact oD | omega) | (apply SY.load; (exact tD); (exact oD)) | (apply SY.len; (exact oD); (exact nD); (exact uD)) | (apply SY.lenRK; exact OpD.t rfl; (first | exact .head _ | exact .tail _ (.head _)); (exact uD)) | (apply SY.lenR; exact OpD.t rfl; (first | exact .head _ | exact .tail _ (.head _)); (exact uD)) | (apply SY.ixK; (exact eD); (exact oD); (exact oD); exact kD) | (apply SY.ix; (exact eD); (exact oD); (exact oD); exact kD) | (apply SY.dynF; (exact OpD.t rfl); (exact aD)) | fail); all_goals infer_instance)); dsimp only [setD, z0, z1]) | (apply WC.condT; (exact oD); (with_reducible rfl)) | (apply WC.condF; (exact oD); (with_reducible rfl)) | (apply WC.condD; (exact oD); all_goals (intro h; try exact xD)) | (apply WC.condN; (exact oD); all_goals (intro h; try exact xD)) | (apply WC.condNB; (exact oD); all_goals (intro h; try exact xD)) | (apply WC.cond; (exact oD); all_goals (intro h; try exact xD)) | refine WC.skip ?_ | refine WC.ret ?_ | refine WC.exit ?_ | refine WC.block ?_ | refine ThenD.n ?_ | refine ThenD.r ?_ | refine ThenD.x ?_ | refine InBlockD.x ?_ | refine InBlockD.n ?_ | refine InBlockD.r ?_ | refine InBlockD.y (by decide) ?_)); all_goals (first | refine WC.id ?_ | refine WL.id ?_ | ((repeat clear hK); (repeat clear Kx))))
    · (refine ⟨trivial, _, rfl, ?_⟩; (first | exact fD | refine FinD.i ?_ | refine FinD.b ?_ | refine FinD.rowKE (.head _) ?_ | refine FinD.rowE (.head _) ?_ | refine FinD.nilKE (by decide) ?_ | refine FinD.nilE ?_ | refine FinD.s ?_))
      rw [h2, idxG_drop (by omega), if_pos h]
    · (refine ⟨k + 1, ?_, by first | omega | (simp only; omega), rfl, ?_⟩; rotate_left; ((try dsimp only [upds, z0, z1]); repeat (first | exact LeF.nil | refine LeF.co (k := ?_))); (try dsimp only))
      exact ⟨by omega, by rw [h2, idxG_drop (by omega), if_neg (by simp [h])]⟩
    · (refine ⟨trivial, _, rfl, ?_⟩; (first | exact fD | refine FinD.i ?_ | refine FinD.b ?_ | refine FinD.rowKE (.head _) ?_ | refine FinD.rowE (.head _) ?_ | refine FinD.nilKE (by decide) ?_ | refine FinD.nilE ?_ | refine FinD.s ?_))
      rw [h2, List.drop_of_length_le (by omega)]; rfl
theorem cntT_p (l : Cx) (p : List Vx → Bool) : Fn Tryz.prog 24 [dS Simps l, dPredT l p] (dB (l.any p)) := by
  (refine Fn.intro1 Tryz.func24 rfl rfl ?_; simp only [Tryz.ntmps24, List.length_cons, List.length_nil, Nat.reduceAdd, Nat.reduceSub, List.replicate_succ, List.replicate_zero, List.cons_append, List.nil_append])
  ((repeat' (first | (apply WL.opN; exact yF; dsimp only [setD, z0, z1]) | refine WL.nil ?_ | refine WC.seqK fun Kx hK => ?_ | (refine hK _ _ ?_; clear hK) | (refine Kont.skip ?_; clear hK) | refine WC.region ?_ | (apply WL.opN; (focus ((first | (apply SY.call (idxT_p _ _) Tryz.call75; (exact aD)) | ((first | apply SY.move | apply SY.assign | apply SY.geq) <;> (exact oD)) | fail); all_goals infer_instance)); dsimp only [setD, z0, z1]) | refine WC.skip ?_ | refine WC.ret ?_ | refine ThenD.n ?_ | refine ThenD.r ?_)); all_goals (first | refine WC.id ?_ | refine WL.id ?_ | ((repeat clear hK); (repeat clear Kx))))
  all_goals ((refine ⟨trivial, _, rfl, ?_⟩; (first | exact fD | refine FinD.i ?_ | refine FinD.b ?_ | refine FinD.rowKE (.head _) ?_ | refine FinD.rowE (.head _) ?_ | refine FinD.nilKE (by decide) ?_ | refine FinD.nilE ?_ | refine FinD.s ?_)); exact idxG_iff _ _)
def gd29 (s : List Vx) : Bool := decide (chkV s = 0 ∧ diffV s = true ∧ s.length ≤ 4)
theorem good29_p (s : List Vx) : Fn Tryz.prog 23 [dS Verts s] (dB (gd29 s)) := by
  have c1 := chk_c s
  have c2 := diff_c s
  unfold gd29
  by_cases h0 : chkV s = 0
  · by_cases h1 : diffV s = true
    · rw [h1] at c2
      by_cases h2 : s.length ≤ 4
      · rw [decide_eq_true ⟨h0, h1, h2⟩]
        (refine Fn.intro1 Tryz.func23 rfl rfl ?_; simp only [Tryz.ntmps23, List.length_cons, List.length_nil, Nat.reduceAdd, Nat.reduceSub, List.replicate_succ, List.replicate_zero, List.cons_append, List.nil_append])
        ((repeat' (first | (apply WL.opN; exact yF; dsimp only [setD, z0, z1]) | refine WL.nil ?_ | refine WC.seqK fun Kx hK => ?_ | (refine hK _ _ ?_; clear hK) | (refine Kont.skip ?_; clear hK) | refine WC.region ?_ | (apply WL.opG; (focus (first | exact wN | (apply SYG.yes; (exact wY); ((first | (apply SY.call (c1) Tryz.call12; (exact aD)) | (apply SY.call (c2) Tryz.call66; (exact aD)) | ((first | apply SY.move | apply SY.assign | apply SY.leq | apply SY.eql) <;> (exact oD)) | (apply SY.len; (exact oD); (exact nD); (exact uD)) | (apply SY.lenRK; exact OpD.t rfl; (first | exact .head _ | exact .tail _ (.head _)); (exact uD)) | (apply SY.lenR; exact OpD.t rfl; (first | exact .head _ | exact .tail _ (.head _)); (exact uD)) | (first | (apply SY.eqlV vxT <;> (exact oD))) | (apply SY.eqlB; (exact oD); (exact oD); exact eqBB) | (apply SY.pickT; (exact oD); (with_reducible rfl); (exact oD)) | (apply SY.pickF; (exact oD); (with_reducible rfl); (exact oD)) | fail); all_goals infer_instance)))); dsimp only [setD, z0, z1]) | ((first | refine WL.caseP rfl rfl rfl (fun h => ?_) (fun h => ?_) | refine WL.caseN rfl rfl rfl (fun h => ?_) (fun h => ?_) | refine WL.caseB rfl rfl rfl (fun h => ?_) (fun h => ?_)) <;> (first | (exfalso; first | omega | contradiction) | (dsimp only [z0, z1]))) | refine WC.skip ?_ | refine WC.ret ?_ | refine ThenD.n ?_ | refine ThenD.r ?_)); all_goals (first | refine WC.id ?_ | refine WL.id ?_ | ((repeat clear hK); (repeat clear Kx))))
        all_goals try (exfalso; first | contradiction | omega)
        (refine ⟨trivial, _, rfl, ?_⟩; (first | exact fD | refine FinD.i ?_ | refine FinD.b ?_ | refine FinD.rowKE (.head _) ?_ | refine FinD.rowE (.head _) ?_ | refine FinD.nilKE (by decide) ?_ | refine FinD.nilE ?_ | refine FinD.s ?_))
        simp; omega
      · rw [decide_eq_false (fun q => h2 q.2.2)]
        (refine Fn.intro1 Tryz.func23 rfl rfl ?_; simp only [Tryz.ntmps23, List.length_cons, List.length_nil, Nat.reduceAdd, Nat.reduceSub, List.replicate_succ, List.replicate_zero, List.cons_append, List.nil_append])
        ((repeat' (first | (apply WL.opN; exact yF; dsimp only [setD, z0, z1]) | refine WL.nil ?_ | refine WC.seqK fun Kx hK => ?_ | (refine hK _ _ ?_; clear hK) | (refine Kont.skip ?_; clear hK) | refine WC.region ?_ | (apply WL.opG; (focus (first | exact wN | (apply SYG.yes; (exact wY); ((first | (apply SY.call (c1) Tryz.call12; (exact aD)) | (apply SY.call (c2) Tryz.call66; (exact aD)) | ((first | apply SY.move | apply SY.assign | apply SY.leq | apply SY.eql) <;> (exact oD)) | (apply SY.len; (exact oD); (exact nD); (exact uD)) | (apply SY.lenRK; exact OpD.t rfl; (first | exact .head _ | exact .tail _ (.head _)); (exact uD)) | (apply SY.lenR; exact OpD.t rfl; (first | exact .head _ | exact .tail _ (.head _)); (exact uD)) | (first | (apply SY.eqlV vxT <;> (exact oD))) | (apply SY.eqlB; (exact oD); (exact oD); exact eqBB) | (apply SY.pickT; (exact oD); (with_reducible rfl); (exact oD)) | (apply SY.pickF; (exact oD); (with_reducible rfl); (exact oD)) | fail); all_goals infer_instance)))); dsimp only [setD, z0, z1]) | ((first | refine WL.caseP rfl rfl rfl (fun h => ?_) (fun h => ?_) | refine WL.caseN rfl rfl rfl (fun h => ?_) (fun h => ?_) | refine WL.caseB rfl rfl rfl (fun h => ?_) (fun h => ?_)) <;> (first | (exfalso; first | omega | contradiction) | (dsimp only [z0, z1]))) | refine WC.skip ?_ | refine WC.ret ?_ | refine ThenD.n ?_ | refine ThenD.r ?_)); all_goals (first | refine WC.id ?_ | refine WL.id ?_ | ((repeat clear hK); (repeat clear Kx))))
        all_goals try (exfalso; first | contradiction | omega)
        (refine ⟨trivial, _, rfl, ?_⟩; (first | exact fD | refine FinD.i ?_ | refine FinD.b ?_ | refine FinD.rowKE (.head _) ?_ | refine FinD.rowE (.head _) ?_ | refine FinD.nilKE (by decide) ?_ | refine FinD.nilE ?_ | refine FinD.s ?_))
        simp; omega
    · have h1 : diffV s = false := by simpa using h1
      rw [h1] at c2
      rw [decide_eq_false (fun q => by rw [h1] at q; cases q.2.1)]
      (refine Fn.intro1 Tryz.func23 rfl rfl ?_; simp only [Tryz.ntmps23, List.length_cons, List.length_nil, Nat.reduceAdd, Nat.reduceSub, List.replicate_succ, List.replicate_zero, List.cons_append, List.nil_append])
      ((repeat' (first | (apply WL.opN; exact yF; dsimp only [setD, z0, z1]) | refine WL.nil ?_ | refine WC.seqK fun Kx hK => ?_ | (refine hK _ _ ?_; clear hK) | (refine Kont.skip ?_; clear hK) | refine WC.region ?_ | (apply WL.opG; (focus (first | exact wN | (apply SYG.yes; (exact wY); ((first | (apply SY.call (c1) Tryz.call12; (exact aD)) | (apply SY.call (c2) Tryz.call66; (exact aD)) | ((first | apply SY.move | apply SY.assign | apply SY.leq | apply SY.eql) <;> (exact oD)) | (apply SY.len; (exact oD); (exact nD); (exact uD)) | (apply SY.lenRK; exact OpD.t rfl; (first | exact .head _ | exact .tail _ (.head _)); (exact uD)) | (apply SY.lenR; exact OpD.t rfl; (first | exact .head _ | exact .tail _ (.head _)); (exact uD)) | (first | (apply SY.eqlV vxT <;> (exact oD))) | (apply SY.eqlB; (exact oD); (exact oD); exact eqBB) | (apply SY.pickT; (exact oD); (with_reducible rfl); (exact oD)) | (apply SY.pickF; (exact oD); (with_reducible rfl); (exact oD)) | fail); all_goals infer_instance)))); dsimp only [setD, z0, z1]) | ((first | refine WL.caseP rfl rfl rfl (fun h => ?_) (fun h => ?_) | refine WL.caseN rfl rfl rfl (fun h => ?_) (fun h => ?_) | refine WL.caseB rfl rfl rfl (fun h => ?_) (fun h => ?_)) <;> (first | (exfalso; first | omega | contradiction) | (dsimp only [z0, z1]))) | refine WC.skip ?_ | refine WC.ret ?_ | refine ThenD.n ?_ | refine ThenD.r ?_)); all_goals (first | refine WC.id ?_ | refine WL.id ?_ | ((repeat clear hK); (repeat clear Kx))))
      all_goals try (exfalso; first | contradiction | omega)
      all_goals (refine ⟨trivial, _, rfl, ?_⟩; (first | exact fD | refine FinD.i ?_ | refine FinD.b ?_ | refine FinD.rowKE (.head _) ?_ | refine FinD.rowE (.head _) ?_ | refine FinD.nilKE (by decide) ?_ | refine FinD.nilE ?_ | refine FinD.s ?_))
  · rw [decide_eq_false (fun q => h0 q.1)]
    (refine Fn.intro1 Tryz.func23 rfl rfl ?_; simp only [Tryz.ntmps23, List.length_cons, List.length_nil, Nat.reduceAdd, Nat.reduceSub, List.replicate_succ, List.replicate_zero, List.cons_append, List.nil_append])
    ((repeat' (first | (apply WL.opN; exact yF; dsimp only [setD, z0, z1]) | refine WL.nil ?_ | refine WC.seqK fun Kx hK => ?_ | (refine hK _ _ ?_; clear hK) | (refine Kont.skip ?_; clear hK) | refine WC.region ?_ | (apply WL.opG; (focus (first | exact wN | (apply SYG.yes; (exact wY); ((first | (apply SY.call (c1) Tryz.call12; (exact aD)) | (apply SY.call (c2) Tryz.call66; (exact aD)) | ((first | apply SY.move | apply SY.assign | apply SY.leq | apply SY.eql) <;> (exact oD)) | (apply SY.len; (exact oD); (exact nD); (exact uD)) | (apply SY.lenRK; exact OpD.t rfl; (first | exact .head _ | exact .tail _ (.head _)); (exact uD)) | (apply SY.lenR; exact OpD.t rfl; (first | exact .head _ | exact .tail _ (.head _)); (exact uD)) | (first | (apply SY.eqlV vxT <;> (exact oD))) | (apply SY.eqlB; (exact oD); (exact oD); exact eqBB) | (apply SY.pickT; (exact oD); (with_reducible rfl); (exact oD)) | (apply SY.pickF; (exact oD); (with_reducible rfl); (exact oD)) | fail); all_goals infer_instance)))); dsimp only [setD, z0, z1]) | ((first | refine WL.caseP rfl rfl rfl (fun h => ?_) (fun h => ?_) | refine WL.caseN rfl rfl rfl (fun h => ?_) (fun h => ?_) | refine WL.caseB rfl rfl rfl (fun h => ?_) (fun h => ?_)) <;> (first | (exfalso; first | omega | contradiction) | (dsimp only [z0, z1]))) | refine WC.skip ?_ | refine WC.ret ?_ | refine ThenD.n ?_ | refine ThenD.r ?_)); all_goals (first | refine WC.id ?_ | refine WL.id ?_ | ((repeat clear hK); (repeat clear Kx))))
    all_goals try (exfalso; first | contradiction | omega)
    all_goals (refine ⟨trivial, _, rfl, ?_⟩; (first | exact fD | refine FinD.i ?_ | refine FinD.b ?_ | refine FinD.rowKE (.head _) ?_ | refine FinD.rowE (.head _) ?_ | refine FinD.nilKE (by decide) ?_ | refine FinD.nilE ?_ | refine FinD.s ?_))
end Go.Proofs.YtgppfikidagfpaaGreatDoor
