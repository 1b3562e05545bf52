/-
  Part 41 of the texts that the claims of this seat lean on: walks of the program's functions by contracts over symbolic frames, and plain laws of what they compute. No condition.
-/
import Derived.Deep.SlicePairs
import Derived.Deep.Strs
import Derived.Lib.SmallJoins
import Derived.OpenShut
import Derived.ProofKit
import Derived.Test.YtgppfikidagfpaaGreatDoorRows
import Derived.Test.YtgppfikidagfpaaGreatDoorVd12
import Derived.Test.YtgppfikidagfpaaGreatDoorVd13
import Derived.Test.YtgppfikidagfpaaGreatDoorVd40
set_option linter.unusedVariables false
set_option linter.unusedSimpArgs false
set_option linter.unusedSectionVars false
namespace Go.Proofs.YtgppfikidagfpaaGreatDoor
open Go.RowKit
section
variable {P : Program} {ops : Array Oper} {hp : List HObj} {fr : List Dat} {dst : Option Tmp} {ty : TypeId} {ps : String} {af : Array Edge} {g : Option (Nat × Bool)}
theorem SY.minE {x y : Operand} {m n c : Int} {ats : Array TypeId} (h : (if n < m then n else m) = c) (hx : OpD fr x (dI m)) (hy : OpD fr y (dI n)) : SY P ops hp { dst := dst, op := .call { callee := .builtin .min, args := #[x, y], argTypes := ats }, type := ty, pos := ps, after := af, guard := g } fr (dI c) := h ▸ SY.minI hx hy
theorem SY.upto1E {x y : Operand} {t e : TypeId} {bytes : Nat} {z : Value} {ag : Bool} (E : ElT P t e 1 z bytes ag) {α : Type} {R : Rel α} {_gR : Good R} {xs : List α} {n : Nat} (hn : n ≤ xs.length) (hx : OpD fr x (dS (Arr R) xs)) (hy : OpD fr y (dI (n : Int))) :
    SY P ops hp { dst := dst, op := .slice t x none (some y) none, type := ty, pos := ps, after := af, guard := g } fr (dS (Arr R) (xs.take n)) := by
  have := SY.slice1 (P := P) (ops := ops) (hp := hp) (dst := dst) (ty := ty) (ps := ps) (af := af) (g := g) (_gR := _gR) E hx (BndD.no (k := 0)) (BndD.yesJ hy rfl) (Nat.zero_le _) hn
  simpa using this
theorem SY.gtrE {x y : Operand} {T T2 : TypeId} {p q : Int} {c : Bool} (h : decide (q < p) = c) (hx : OpD fr x (dI p)) (hy : OpD fr y (dI q)) : SY P ops hp { dst := dst, op := .binOp .gtr T x y T2, type := ty, pos := ps, after := af, guard := g } fr (dB c) := h ▸ SY.gtr hx hy
end
theorem min30 (m : Nat) : (if (30 : Int) < (m : Int) then (30 : Int) else (m : Int)) = ((min m 30 : Nat) : Int) := by split <;> omega
set_option linter.unusedSimpArgs false

set_option maxHeartbeats 2000000
set_option maxRecDepth 100000
theorem car_same (c F : Cx) (V : List Vx) (C : Cx) (s : List Vx) : car29 (chk29 (okR c V C) c F V C) (unP V C s) F s = car29 (chk29 (okR c V C) c F V C) (unR V C s) F s := by
  unfold car29
  by_cases h1 : chk29 (okR c V C) c F V C ≠ 0
  · rw [if_pos h1, if_pos h1]
  rw [if_neg h1, if_neg h1]
  by_cases h3 : hasC' F s = true
  · rw [un_same (show chk29 (okR c V C) c F V C = 0 by omega) h3]
  · have h4 : hasC' F s = false := by simpa using h3
    rw [if_pos h4, if_pos h4]
theorem sameV_s (a : List Vx) : Fn Tryz.prog 21 [dS Verts a, dS Verts a] (dB true) := by
  have := same_c a a
  rwa [decide_eq_true (cmpL_eq.2 rfl)] at this
set_option maxHeartbeats 16000000 in
theorem checksNo_p (c F : Cx) (V : List Vx) (C : Cx) (s : List Vx) (b1 b2 b3 b4 b5 : Bool) (h1 : fewAllV c = b1) (h2 : (fewAllV F && decide (V.length ≤ 60) && decide (C.length ≤ 60)) = b2) (h3 : decide ((s.length : Int) ≤ 10) = b3) (h4 : fewAllV (C.take (min C.length 30)) = b4) (h30 : decide ((30 : Int) < (C.length : Int)) = b5)
    (hb : (b1 && (b2 && (b3 && (b4 && !b5)))) = false) : Fn Tryz.prog 7 [dS Cpx c, dS SubR (F, V, C), dS Verts s] (dB true) := by
  have ca := awake29_p
  have c1 := fewC_c c
  have c2 := few29_c F V C
  have c3 := few_c s
  have c4 := fewAll_c (C.take (min C.length 30))
  rw [h1] at c1
  rw [h2] at c2
  rw [h3] at c3
  rw [h4] at c4
  clear h1 h2 h3 h4
  cases b1 with
  | false =>
    clear hb
    (refine Fn.intro1 Tryz.func7 rfl rfl ?_; simp only [Tryz.ntmps7, List.length_cons, List.length_nil, Nat.reduceAdd, Nat.reduceSub, List.replicate_succ, List.replicate_zero, List.cons_append, List.nil_append])
    ((repeat' (first | ((first | apply WL.opN | apply WD.opN); exact yF; dsimp only [setD, z0, z1]) | refine WL.nil ?_ | refine WC.seqK fun Kx hK => ?_ | (refine hK _ _ ?_; clear hK) | refine WC.region ?_ | ((first | apply WL.opG | apply WD.op); (focus (first | exact wN | (apply SYG.yes; (exact wY); ((first | (exact SY.box (OpD.t rfl) shape_C) | (exact SY.box (OpD.t rfl) shape_R3) | (apply SY.call (c1) Tryz.call33; (exact aD)) | (apply SY.call (c2) Tryz.call40; (exact aD)) | (apply SY.call (c3) Tryz.call11; (exact aD)) | (apply SY.call (c4) Tryz.call41; (exact aD)) | (apply SY.call (ca) Tryz.call13; (exact aD)) | ((first | apply SY.move | apply SY.assign | apply SY.gtr | apply SY.eql | apply SY.not) <;> (exact oD)) | (apply SY.pickT; (exact oD); (with_reducible rfl); (exact oD)) | fail); all_goals infer_instance)))); dsimp only [setD, z0, z1]) | ((first | refine WL.caseP rfl rfl rfl (fun h => ?_) (fun h => ?_) | refine WL.caseN rfl rfl rfl (fun h => ?_) (fun h => ?_) | refine WL.caseB rfl rfl rfl (fun h => ?_) (fun h => ?_) | refine WD.caseP rfl rfl rfl (fun h => ?_) (fun h => ?_) | refine WD.caseN rfl rfl rfl (fun h => ?_) (fun h => ?_) | refine WD.caseB rfl rfl rfl (fun h => ?_) (fun h => ?_)) <;> (first | (exfalso; first | omega | contradiction) | (dsimp only [z0, z1]))) | (apply WC.condT; (exact oD); (with_reducible rfl)) | refine WC.ret ?_ | refine ThenD.r ?_)); all_goals (first | ((repeat clear hK); (repeat clear Kx))))
    all_goals try (exfalso; first | contradiction | omega)
    all_goals (refine ⟨trivial, _, rfl, ?_⟩; exact fD)
  | true =>
    cases b2 with
    | false =>
      clear hb
      (refine Fn.intro1 Tryz.func7 rfl rfl ?_; simp only [Tryz.ntmps7, List.length_cons, List.length_nil, Nat.reduceAdd, Nat.reduceSub, List.replicate_succ, List.replicate_zero, List.cons_append, List.nil_append])
      ((repeat' (first | ((first | apply WL.opN | apply WD.opN); exact yF; dsimp only [setD, z0, z1]) | refine WL.nil ?_ | refine WC.seqK fun Kx hK => ?_ | (refine hK _ _ ?_; clear hK) | refine WC.region ?_ | ((first | apply WL.opG | apply WD.op); (focus (first | exact wN | (apply SYG.yes; (exact wY); ((first | (exact SY.box (OpD.t rfl) shape_C) | (exact SY.box (OpD.t rfl) shape_R3) | (apply SY.load; exact tySb; exact OpD.t rfl) | (exact SY.notT (OpD.t rfl)) | (apply SY.call (c1) Tryz.call33; (exact aD)) | (apply SY.call (c2) Tryz.call40; (exact aD)) | (apply SY.call (c3) Tryz.call11; (exact aD)) | (apply SY.call (c4) Tryz.call41; (exact aD)) | (apply SY.call (ca) Tryz.call13; (exact aD)) | ((first | apply SY.move | apply SY.assign | apply SY.gtr | apply SY.eql | apply SY.not) <;> (exact oD)) | (apply SY.pickT; (exact oD); (with_reducible rfl); (exact oD)) | (apply SY.pickF; (exact oD); (with_reducible rfl); (exact oD)) | fail); all_goals infer_instance)))); dsimp only [setD, z0, z1]) | ((first | refine WL.caseP rfl rfl rfl (fun h => ?_) (fun h => ?_) | refine WL.caseN rfl rfl rfl (fun h => ?_) (fun h => ?_) | refine WL.caseB rfl rfl rfl (fun h => ?_) (fun h => ?_) | refine WD.caseP rfl rfl rfl (fun h => ?_) (fun h => ?_) | refine WD.caseN rfl rfl rfl (fun h => ?_) (fun h => ?_) | refine WD.caseB rfl rfl rfl (fun h => ?_) (fun h => ?_)) <;> (first | (exfalso; first | omega | contradiction) | (dsimp only [z0, z1]))) | (apply WC.condT; (exact oD); (with_reducible rfl)) | refine WC.ret ?_ | refine ThenD.r ?_)); all_goals (first | ((repeat clear hK); (repeat clear Kx))))
      all_goals try (exfalso; first | contradiction | omega)
      all_goals (refine ⟨trivial, _, rfl, ?_⟩; exact fD)
    | true =>
      cases b3 with
      | false =>
        clear hb
        (refine Fn.intro1 Tryz.func7 rfl rfl ?_; simp only [Tryz.ntmps7, List.length_cons, List.length_nil, Nat.reduceAdd, Nat.reduceSub, List.replicate_succ, List.replicate_zero, List.cons_append, List.nil_append])
        ((repeat' (first | ((first | apply WL.opN | apply WD.opN); exact yF; dsimp only [setD, z0, z1]) | refine WL.nil ?_ | refine WC.seqK fun Kx hK => ?_ | (refine hK _ _ ?_; clear hK) | refine WC.region ?_ | ((first | apply WL.opG | apply WD.op); (focus (first | exact wN | (apply SYG.yes; (exact wY); ((first | (exact SY.box (OpD.t rfl) shape_C) | (exact SY.box (OpD.t rfl) shape_R3) | (apply SY.load; exact tySb; exact OpD.t rfl) | (exact SY.notT (OpD.t rfl)) | (apply SY.call (c1) Tryz.call33; (exact aD)) | (apply SY.call (c2) Tryz.call40; (exact aD)) | (apply SY.call (c3) Tryz.call11; (exact aD)) | (apply SY.call (c4) Tryz.call41; (exact aD)) | (apply SY.call (ca) Tryz.call13; (exact aD)) | ((first | apply SY.move | apply SY.assign | apply SY.gtr | apply SY.eql | apply SY.not) <;> (exact oD)) | (apply SY.pickT; (exact oD); (with_reducible rfl); (exact oD)) | (apply SY.pickF; (exact oD); (with_reducible rfl); (exact oD)) | fail); all_goals infer_instance)))); dsimp only [setD, z0, z1]) | ((first | refine WL.caseP rfl rfl rfl (fun h => ?_) (fun h => ?_) | refine WL.caseN rfl rfl rfl (fun h => ?_) (fun h => ?_) | refine WL.caseB rfl rfl rfl (fun h => ?_) (fun h => ?_) | refine WD.caseP rfl rfl rfl (fun h => ?_) (fun h => ?_) | refine WD.caseN rfl rfl rfl (fun h => ?_) (fun h => ?_) | refine WD.caseB rfl rfl rfl (fun h => ?_) (fun h => ?_)) <;> (first | (exfalso; first | omega | contradiction) | (dsimp only [z0, z1]))) | (apply WC.condT; (exact oD); (with_reducible rfl)) | refine WC.ret ?_ | refine ThenD.r ?_)); all_goals (first | ((repeat clear hK); (repeat clear Kx))))
        all_goals try (exfalso; first | contradiction | omega)
        all_goals (refine ⟨trivial, _, rfl, ?_⟩; exact fD)
      | true =>
        cases b4 with
        | false =>
          clear hb
          (refine Fn.intro1 Tryz.func7 rfl rfl ?_; simp only [Tryz.ntmps7, List.length_cons, List.length_nil, Nat.reduceAdd, Nat.reduceSub, List.replicate_succ, List.replicate_zero, List.cons_append, List.nil_append])
          ((repeat' (first | ((first | apply WL.opN | apply WD.opN); exact yF; dsimp only [setD, z0, z1]) | refine WL.nil ?_ | refine WC.seqK fun Kx hK => ?_ | (refine hK _ _ ?_; clear hK) | refine WC.region ?_ | ((first | apply WL.opG | apply WD.op); (focus (first | exact wN | (apply SYG.yes; (exact wY); ((first | (exact SY.box (OpD.t rfl) shape_C) | (exact SY.box (OpD.t rfl) shape_R3) | (apply SY.load; exact tySb; exact OpD.t rfl) | (apply SY.load; exact tySS; exact OpD.t rfl) | (exact SY.fldA strSb (OpD.t rfl) R3_agg rfl rfl) | (exact SY.notT (OpD.t rfl)) | (exact SY.minE (min30 C.length) (OpD.t rfl) OpD.i) | (exact SY.upto1E (R := Verts) (_gR := inferInstance) (xs := C) (n := min C.length 30) elSi (Nat.min_le_left _ _) (OpD.t rfl) (OpD.t rfl)) | (apply SY.call (c1) Tryz.call33; (exact aD)) | (apply SY.call (c2) Tryz.call40; (exact aD)) | (apply SY.call (c3) Tryz.call11; (exact aD)) | (apply SY.call (c4) Tryz.call41; (exact aD)) | (apply SY.call (ca) Tryz.call13; (exact aD)) | ((first | apply SY.move | apply SY.assign | apply SY.gtr | apply SY.eql | apply SY.not) <;> (exact oD)) | (apply SY.len; (exact oD); (exact nD); (exact uD)) | (apply SY.pickT; (exact oD); (with_reducible rfl); (exact oD)) | (apply SY.pickF; (exact oD); (with_reducible rfl); (exact oD)) | fail); all_goals infer_instance)))); dsimp only [setD, z0, z1]) | ((first | refine WL.caseP rfl rfl rfl (fun h => ?_) (fun h => ?_) | refine WL.caseN rfl rfl rfl (fun h => ?_) (fun h => ?_) | refine WL.caseB rfl rfl rfl (fun h => ?_) (fun h => ?_) | refine WD.caseP rfl rfl rfl (fun h => ?_) (fun h => ?_) | refine WD.caseN rfl rfl rfl (fun h => ?_) (fun h => ?_) | refine WD.caseB rfl rfl rfl (fun h => ?_) (fun h => ?_)) <;> (first | (exfalso; first | omega | contradiction) | (dsimp only [z0, z1]))) | (apply WC.condT; (exact oD); (with_reducible rfl)) | refine WC.ret ?_ | refine ThenD.r ?_)); all_goals (first | ((repeat clear hK); (repeat clear Kx))))
          all_goals try (exfalso; first | contradiction | omega)
          all_goals (refine ⟨trivial, _, rfl, ?_⟩; exact fD)
        | true =>
          cases b5 with
          | false => cases hb
          | true =>
            clear hb
            (refine Fn.intro1 Tryz.func7 rfl rfl ?_; simp only [Tryz.ntmps7, List.length_cons, List.length_nil, Nat.reduceAdd, Nat.reduceSub, List.replicate_succ, List.replicate_zero, List.cons_append, List.nil_append])
            ((repeat' (first | ((first | apply WL.opN | apply WD.opN); exact yF; dsimp only [setD, z0, z1]) | refine WL.nil ?_ | refine WC.seqK fun Kx hK => ?_ | (refine hK _ _ ?_; clear hK) | refine WC.region ?_ | ((first | apply WL.opG | apply WD.op); (focus (first | exact wN | (apply SYG.yes; (exact wY); ((first | (exact SY.box (OpD.t rfl) shape_C) | (exact SY.box (OpD.t rfl) shape_R3) | (apply SY.load; exact tySb; exact OpD.t rfl) | (apply SY.load; exact tySS; exact OpD.t rfl) | (exact SY.fldA strSb (OpD.t rfl) R3_agg rfl rfl) | (exact SY.notT (OpD.t rfl)) | (exact SY.minE (min30 C.length) (OpD.t rfl) OpD.i) | (exact SY.upto1E (R := Verts) (_gR := inferInstance) (xs := C) (n := min C.length 30) elSi (Nat.min_le_left _ _) (OpD.t rfl) (OpD.t rfl)) | (exact SY.gtrE h30 (OpD.t rfl) OpD.i) | (apply SY.call (c1) Tryz.call33; (exact aD)) | (apply SY.call (c2) Tryz.call40; (exact aD)) | (apply SY.call (c3) Tryz.call11; (exact aD)) | (apply SY.call (c4) Tryz.call41; (exact aD)) | (apply SY.call (ca) Tryz.call13; (exact aD)) | ((first | apply SY.move | apply SY.assign | apply SY.gtr | apply SY.eql | apply SY.not) <;> (exact oD)) | (apply SY.len; (exact oD); (exact nD); (exact uD)) | (apply SY.pickF; (exact oD); (with_reducible rfl); (exact oD)) | fail); all_goals infer_instance)))); dsimp only [setD, z0, z1]) | (apply WC.condT; (exact oD); (with_reducible rfl)) | refine WC.ret ?_ | refine ThenD.r ?_)); all_goals (first | ((repeat clear hK); (repeat clear Kx))))
            all_goals try (exfalso; first | contradiction | omega)
            all_goals (refine ⟨trivial, _, rfl, ?_⟩; exact fD)
set_option maxHeartbeats 16000000 in
theorem checksYes_p (c F : Cx) (V : List Vx) (C : Cx) (s : List Vx) (h1 : fewAllV c = true) (h2 : (fewAllV F && decide (V.length ≤ 60) && decide (C.length ≤ 60)) = true) (h3 : decide ((s.length : Int) ≤ 10) = true) (h4 : fewAllV (C.take (min C.length 30)) = true) (h30 : decide ((30 : Int) < (C.length : Int)) = false) :
    Fn Tryz.prog 7 [dS Cpx c, dS SubR (F, V, C), dS Verts s] (dB true) := by
  have ca := awake29_p
  have c1 := fewC_c c
  have c2 := few29_c F V C
  have c3 := few_c s
  have c4 := fewAll_c (C.take (min C.length 30))
  rw [h1] at c1
  rw [h2] at c2
  rw [h3] at c3
  rw [h4] at c4
  have hF : F.length ≤ 100 := by
    simp only [Bool.and_eq_true, fewAllV, decide_eq_true_eq] at h2
    omega
  have hV : V.length ≤ 60 := by
    simp only [Bool.and_eq_true, decide_eq_true_eq] at h2
    omega
  have hC : C.length ≤ 100 := by
    have := of_decide_eq_false h30
    omega
  have k1 := car29_p c F V C s hF hC
  have k2 := car29_c c F V C s hF hV
  have k3 := chk29_p c F V C hF hC
  have k4 := chk29_c c F V C hF hV
  rw [chk_same] at k1 k3
  rw [car_same] at k1
  generalize car29 (chk29 (okR c V C) c F V C) (unR V C s) F s = p at *
  generalize chk29 (okR c V C) c F V C = n at *
  obtain ⟨u, e⟩ := p
  simp only at k1 k2
  clear h1 h2 h3 h4
  (refine Fn.intro1 Tryz.func7 rfl rfl ?_; simp only [Tryz.ntmps7, List.length_cons, List.length_nil, Nat.reduceAdd, Nat.reduceSub, List.replicate_succ, List.replicate_zero, List.cons_append, List.nil_append])
  ((repeat' (first | ((first | apply WL.opN | apply WD.opN); exact yF; dsimp only [setD, z0, z1]) | refine WL.nil ?_ | refine WD.nil ?_ | refine WC.seqK fun Kx hK => ?_ | (refine hK _ _ ?_; clear hK) | refine WC.region ?_ | (apply WC.draw; kernel_rfl; kernel_rfl) | ((first | apply WL.opG | apply WD.op); (focus (first | exact wN | (apply SYG.yes; (exact wY); ((first | (exact SY.box (OpD.t rfl) shape_C) | (exact SY.box (OpD.t rfl) shape_R3) | (apply SY.load; exact tyC; exact OpD.t rfl) | (apply SY.load; exact tySb; exact OpD.t rfl) | (apply SY.load; exact tySS; exact OpD.t rfl) | (exact SY.fldA strSb (OpD.t rfl) R3_agg rfl rfl) | (exact SY.notT (OpD.t rfl)) | (exact SY.minE (min30 C.length) (OpD.t rfl) OpD.i) | (exact SY.upto1E (R := Verts) (_gR := inferInstance) (xs := C) (n := min C.length 30) elSi (Nat.min_le_left _ _) (OpD.t rfl) (OpD.t rfl)) | (exact SY.gtrE h30 (OpD.t rfl) OpD.i) | (apply SY.call (c1) Tryz.call33; (exact aD)) | (apply SY.call (c2) Tryz.call40; (exact aD)) | (apply SY.call (c3) Tryz.call11; (exact aD)) | (apply SY.call (c4) Tryz.call41; (exact aD)) | (apply SY.call (ca) Tryz.call13; (exact aD)) | (apply SY.call (k1) Tryz.call42; (exact aD)) | (apply SY.call (k2) Tryz.call43; (exact aD)) | (apply SY.call (k3) Tryz.call44; (exact aD)) | (apply SY.call (k4) Tryz.call45; (exact aD)) | (apply SY.call (sameV_s _) Tryz.call21; (exact aD)) | (exact SY.eqlT rfl (OpD.t rfl) (OpD.t rfl)) | ((first | apply SY.move | apply SY.assign | apply SY.gtr | apply SY.eql | apply SY.not) <;> (exact oD)) | (apply SY.len; (exact oD); (exact nD); (exact uD)) | (apply SY.pickT; (exact oD); (with_reducible rfl); (exact oD)) | (apply SY.pickF; (exact oD); (with_reducible rfl); (exact oD)) | (apply SY.extract; (exact oD); rfl) | fail); all_goals infer_instance)))); dsimp only [setD, z0, z1]) | (apply WC.condF; (exact oD); (with_reducible rfl)) | refine WC.skip ?_ | refine WC.ret ?_)); all_goals (first | ((repeat clear hK); (repeat clear Kx))))
  all_goals try (exfalso; first | contradiction | omega)
  all_goals (refine ⟨trivial, _, rfl, ?_⟩; exact fD)
theorem checks29_p (c F : Cx) (V : List Vx) (C : Cx) (s : List Vx) : Fn Tryz.prog 7 [dS Cpx c, dS SubR (F, V, C), dS Verts s] (dB true) := by
  by_cases h : (fewAllV c && ((fewAllV F && decide (V.length ≤ 60) && decide (C.length ≤ 60)) && (decide ((s.length : Int) ≤ 10) && (fewAllV (C.take (min C.length 30)) && !decide ((30 : Int) < (C.length : Int)))))) = true
  · obtain ⟨q1, r1⟩ := Bool.and_eq_true_iff.1 h
    obtain ⟨q2, r2⟩ := Bool.and_eq_true_iff.1 r1
    obtain ⟨q3, r3⟩ := Bool.and_eq_true_iff.1 r2
    obtain ⟨q4, q5⟩ := Bool.and_eq_true_iff.1 r3
    exact checksYes_p c F V C s q1 q2 q3 q4 (by simpa using q5)
  · exact checksNo_p c F V C s _ _ _ _ _ rfl rfl rfl rfl rfl (by rw [Bool.not_eq_true] at h; exact h)
end Go.Proofs.YtgppfikidagfpaaGreatDoor
namespace Go.Proofs.YtgppfikidagfpaaGreatDoor
open Go.ChangeShapes Go.WideShapes Go.ChangeAt Go.RowKit
set_option maxRecDepth 100000

theorem own : ownKnob Tryz.prog.godebug = none := by kernel_rfl
theorem laidOut : laidOutB Tryz.prog = true := by kernel_rfl
theorem cellsV : Tryz.prog.cellsOf 52 = 2 := by kernel_rfl
theorem cellsS : Tryz.prog.cellsOf 22 = 1 := by kernel_rfl
theorem cellsI : Tryz.prog.cellsOf 3 = 1 := by kernel_rfl

section
variable {H : Type} {enc : TypeId × Value → H}
theorem open_V {w : World} {fuel : Nat} {v : Value} {x : DataW H × List MemPlace} (h : DataW.trod enc Tryz.prog w 0 (fun _ => true) true fuel 22 [v] = some x) :
    ∃ xs, Verts anyB w v xs := by
  rcases Deep.open_slice_pairs Tryz.underlying22 Tryz.underlying52 cellsV rfl rfl cellsI cellsI h with ⟨hc, _⟩ | ⟨a, len, cap, m, n, V0, V1, D0, D1, P0, P1, hc, _, hl, hm, hmm, _, hx⟩
  · obtain rfl : v = .slice none 0 0 := by simpa using hc
    exact ⟨[], ArrK.nil' (by decide)⟩
  · obtain rfl : v = .slice (some a) len cap := by simpa using hc
    simp only [if_true] at hmm
    subst hmm
    have hz : ∀ i, ∃ p : Int × Int, i < m → V0 i = .int .i64 p.1 ∧ V1 i = .int .i64 p.2 := fun i => by
      by_cases hi : i < m
      · obtain ⟨_, _, h2, h3⟩ := hx i hi
        obtain ⟨p, hp, _⟩ := DataW.trod_int Tryz.underlying3 h2
        obtain ⟨q, hq, _⟩ := DataW.trod_int Tryz.underlying3 h3
        exact ⟨(p, q), fun _ => ⟨by simpa using hp, by simpa using hq⟩⟩
      · exact ⟨(0, 0), fun h => absurd h hi⟩
    obtain ⟨z, hz⟩ := Classical.axiomOfChoice hz
    have hlen : ((List.range len).map z).length = len := by simp
    refine ⟨(List.range len).map z, some a, m, by rw [hlen], by rw [hlen]; exact hl, hm, by decide, fun k hk => ?_⟩
    rw [hlen] at hk
    obtain ⟨h0, h1, _⟩ := hx k (by omega)
    have hs := World.cell?_spot (hx 0 (by omega)).1
    obtain ⟨b, off, sp⟩ := a
    obtain rfl : sp = none := by simpa [Addr.add] using hs
    obtain ⟨e0, e1⟩ := hz k (by omega)
    refine ⟨[.int .i64 (z k).1, .int .i64 (z k).2], b, off, by simp [RV], rfl, by simp [Value.oneCell'], rfl, trivial, fun j c hc => ?_⟩
    rw [Addr.add_lit] at h0 h1
    match j, hc with
    | 0, hc => cases hc; rw [Nat.add_zero, ← e0]; exact h0
    | 1, hc => cases hc; rw [← e1, Nat.add_assoc]; exact h1
theorem open_V' {w : World} {r : Reach} {b0 : Nat} {v : Value} {d : DataW H} {ps : List MemPlace} (hv : Value.okWide Tryz.prog w r b0 22 v) (h : DataW.Trod enc Tryz.prog w 0 (fun _ => true) true 22 v d ps) : ∃ xs, (dS Verts xs).rd anyB w v := by
  obtain ⟨fuel, h⟩ := h
  obtain ⟨a, len, cap, rfl⟩ := okWide_slice Tryz.underlying22 hv
  exact open_V h
theorem open_S {w : World} {fuel : Nat} {v : Value} {x : DataW H × List MemPlace} (h : DataW.trod enc Tryz.prog w 0 (fun _ => true) true fuel 37 [v] = some x) :
    ∃ xs, Simps anyB w v xs := by
  rcases Deep.open_slice1 Tryz.underlying37 cellsS h with ⟨hc, _⟩ | ⟨a, len, cap, m, n, V, D, Pl, hc, _, hl, hm, hmm, _, hx⟩
  · obtain rfl : v = .slice none 0 0 := by simpa using hc
    exact ⟨[], Arr.nil'⟩
  · obtain rfl : v = .slice (some a) len cap := by simpa using hc
    simp only [if_true] at hmm
    subst hmm
    have hz : ∀ i, ∃ xs : List (Int × Int), i < m → Verts anyB w (V i) xs := fun i => by
      by_cases hi : i < m
      · obtain ⟨xs, h1⟩ := open_V (hx i hi).2
        exact ⟨xs, fun _ => h1⟩
      · exact ⟨[], fun h => absurd h hi⟩
    obtain ⟨z, hz⟩ := Classical.axiomOfChoice hz
    have hlen : ((List.range len).map z).length = len := by simp
    refine ⟨(List.range len).map z, some a, m, by rw [hlen], by rw [hlen]; exact hl, hm, fun k hk => ?_⟩
    rw [hlen] at hk
    obtain ⟨h0, _⟩ := hx k (by omega)
    have hs := World.cell?_spot (hx 0 (by omega)).1
    obtain ⟨b, off, sp⟩ := a
    obtain rfl : sp = none := by simpa [Addr.add] using hs
    have hv := hz k (by omega)
    refine ⟨V k, b, off, by simpa using hv, ?_, rfl, trivial, by rw [Addr.add_lit] at h0; exact h0⟩
    obtain ⟨a', c', hv', _⟩ := hv
    rw [hv']; rfl
end

section
variable {H : Type} {enc : TypeId × Value → H}

theorem args_kept {W W' : World} (hE : Ext W W') : ∀ {ts : List TypeId} {vs : List Value} {ds : List (DataW H)} {ps : List MemPlace}, (∀ t ∈ ts, Tryz.prog.readableRec t = true ∧ t < Tryz.prog.types.size) → (∀ p ∈ ps, p.block < W.heap.size) →
    DataW.TrodAll enc Tryz.prog W 0 (fun _ => true) true ts vs ds ps → DataW.TrodAll enc Tryz.prog W' 0 (fun b => decide (b < W.heap.size)) true ts vs ds ps
  | [], _, _, _, _, _, h => by
    obtain ⟨rfl, rfl, rfl⟩ := trodAll_nil h
    exact trodAll_mk0
  | t :: ts, _, _, _, ht, hlt, h => by
    obtain ⟨v, vs1, d, ds1, a, b, rfl, rfl, rfl, h1, h2⟩ := trodAll_cons h
    exact trodAll_cons_mk (Below.trod laidOut (ht t (by simp)).1 (ht t (by simp)).2 h1 hE (fun x hx => hlt x (by simp [hx]))) (args_kept hE (fun t' h' => ht t' (by simp [h'])) (fun p hp => hlt p (by simp [hp])) h2)

theorem post_law {f : Func} {s : ChangeSpec} {W W' : World} {args : Array Value} {ds gs : List (DataW H)} {before : List MemPlace} (hW : DataW.Whole enc Tryz.prog f.params.toList s.vars false W args.toList ds gs before) (hvars : s.vars = [])
    (hr : f.resultTypes = #[4]) (hs : s.fn H ds = { results := [.lit (.bool true)], args := ds }) (ht : ∀ t ∈ f.params.toList, Tryz.prog.readableRec t = true ∧ t < Tryz.prog.types.size) (hE : Ext W W') :
    s.post enc Tryz.prog f false true false false W args (.bool true) W' := by
  have hlt := hW.lt
  have hW' := hW
  obtain ⟨p, q, hA, hV, rfl, hfz, hnd⟩ := hW
  rw [hvars] at hV
  obtain ⟨rfl, rfl⟩ := trodVars_none hV
  refine ⟨ds, [], p ++ [], [], p, [], hW', ?_, ?_, ?_, hE.frame _, fun h => by cases h⟩
  · rw [hr, List.append_nil, hs]
    exact trodAll_mk1 (shut_bool Tryz.underlying4 true)
  · rw [List.append_nil, hs]
    exact args_kept hE ht (fun x hx => hlt x (by simp [hx])) hA
  · rw [hvars, List.append_nil, hs]
    rfl
theorem fn_law {f : FuncId} {ds : List Dat} (hF : Fn Tryz.prog f ds (dB true)) {W : World} {vs : List Value} (hl : vs.length = ds.length) (h : ∀ (i : Nat) (d : Dat), ds[i]? = some d → d.rd anyB W (vs.getD i undef)) :
    Calls Tryz.prog f vs.toArray W fun e W' => e = .returned (.bool true) ∧ Ext W W' :=
  (hF.out anyB W vs hl h).mono fun _ _ ⟨_, h1, h2, h3⟩ => by cases (h3 : _ = _); exact ⟨h1, h2⟩
end
end Go.Proofs.YtgppfikidagfpaaGreatDoor
namespace Go.Proofs.YtgppfikidagfpaaGreatDoor
open Go.ChangeShapes Go.WideShapes Go.ChangeAt Go.RowKit
set_option maxRecDepth 100000
section
variable {H : Type} {enc : TypeId × Value → H}
theorem cellsC : Tryz.prog.cellsOf 39 = 1 := by kernel_rfl
theorem cellsSS : Tryz.prog.cellsOf 37 = 1 := by kernel_rfl
theorem open_C' {w : World} {r : Reach} {b0 : Nat} {v : Value} {d : DataW H} {ps : List MemPlace} (hv : Value.okWide Tryz.prog w r b0 39 v) (h : DataW.Trod enc Tryz.prog w 0 (fun _ => true) true 39 v d ps) : ∃ xs, (dS Cpx xs).rd anyB w v := by
  obtain ⟨fuel, h⟩ := h
  obtain ⟨cs, rfl, hcs⟩ := okWide_struct Tryz.underlying39 hv
  rw [cellsC] at hcs
  obtain ⟨u, rfl⟩ := Array.size_eq_one_iff.1 hcs
  obtain ⟨y0, n, hy, hl, h0⟩ := trod_struct1 Tryz.underlying39 h
  have h0' : DataW.trod enc Tryz.prog w 0 (fun _ => true) true n 37 [u] = some y0 := by
    have e : Tryz.prog.cellsOf 37 = 1 := cellsSS
    simpa [Value.cells, e] using h0
  obtain ⟨xs, hx⟩ := open_S h0'
  refine ⟨xs, u, rfl, ?_, hx⟩
  obtain ⟨a, c, hu, _⟩ := hx
  rw [hu]; rfl
end
end Go.Proofs.YtgppfikidagfpaaGreatDoor
namespace Go.Proofs.YtgppfikidagfpaaGreatDoor
open Go.ChangeShapes Go.WideShapes Go.ChangeAt Go.RowKit
set_option maxRecDepth 100000
section
variable {H : Type} {enc : TypeId × Value → H}
theorem cellsD : Tryz.prog.cellsOf 41 = 3 := by kernel_rfl
theorem open_D' {w : World} {r : Reach} {b0 : Nat} {v : Value} {d : DataW H} {ps : List MemPlace} (hv : Value.okWide Tryz.prog w r b0 41 v) (h : DataW.Trod enc Tryz.prog w 0 (fun _ => true) true 41 v d ps) : ∃ x, (dS SubR x).rd anyB w v := by
  obtain ⟨fuel, h⟩ := h
  obtain ⟨cs, rfl, hcs⟩ := okWide_struct Tryz.underlying41 hv
  rw [cellsD] at hcs
  obtain ⟨u0, u1, u2, rfl⟩ : ∃ u0 u1 u2, cs = #[u0, u1, u2] := by
    obtain ⟨l⟩ := cs
    match l, hcs with
    | [u0, u1, u2], _ => exact ⟨u0, u1, u2, rfl⟩
  obtain ⟨y0, y1, y2, n, hy, hl, h0, h1, h2⟩ := Deep.trod_struct3 Tryz.underlying41 h
  have h0' : DataW.trod enc Tryz.prog w 0 (fun _ => true) true n 39 [u0] = some y0 := by
    simpa [Value.cells, cellsC, cellsS, cellsSS] using h0
  have h1' : DataW.trod enc Tryz.prog w 0 (fun _ => true) true n 22 [u1] = some y1 := by
    simpa [Value.cells, cellsC, cellsS, cellsSS] using h1
  have h2' : DataW.trod enc Tryz.prog w 0 (fun _ => true) true n 37 [u2] = some y2 := by
    simpa [Value.cells, cellsC, cellsS, cellsSS] using h2
  obtain ⟨z0, m, _, _, g0⟩ := trod_struct1 Tryz.underlying39 h0'
  have g0' : DataW.trod enc Tryz.prog w 0 (fun _ => true) true m 37 [u0] = some z0 := by
    simpa [Value.cells, cellsSS] using g0
  obtain ⟨F, hF⟩ := open_S g0'
  obtain ⟨V, hV⟩ := open_V h1'
  obtain ⟨C, hC⟩ := open_S h2'
  refine ⟨(F, V, C), u0, u1, u2, rfl, ⟨?_, ?_, ?_⟩, hF, hV, hC⟩
  · obtain ⟨a, c, hu, _⟩ := hF
    rw [hu]; rfl
  · obtain ⟨a, c, hu, _⟩ := hV
    rw [hu]; rfl
  · obtain ⟨a, c, hu, _⟩ := hC
    rw [hu]; rfl
end
end Go.Proofs.YtgppfikidagfpaaGreatDoor
