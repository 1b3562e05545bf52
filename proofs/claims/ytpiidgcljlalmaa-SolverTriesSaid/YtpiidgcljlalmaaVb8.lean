/- Part 8: walks by contracts, and plain laws. -/
import Derived.Deep.Matrix
import Derived.Lib.SmallJoins
import Derived.Test.YtpiidgcljlalmaaRows
import Derived.Test.YtpiidgcljlalmaaVb7
set_option linter.unusedVariables false
set_option linter.unusedSimpArgs false
set_option linter.unusedSectionVars false
namespace Go.Proofs.Ytpiidgcljlalmaa
open Go.RowKit
section
variable {P : Program} {ops : Array Oper} {hp : List HObj} {fr : List Dat} {dst : Option Tmp} {ty : TypeId} {ps : String} {af : Array Edge} {g : Option (Nat × Bool)} {T T2 : TypeId}
theorem SY.andE43 {p q c : Int} {x y : Operand} (h : iand p q = c) (hx : OpD fr x (dI p)) (hy : OpD fr y (dI q)) : SY P ops hp { dst := dst, op := .binOp .and T x y T2, type := ty, pos := ps, after := af, guard := g } fr (dI c) := h ▸ SY.and hx hy
end
theorem bit43 : ∀ (b : Fin 256) (k : Fin 8), iand (ishr (b.val : Int) (k.val : Int)) 1 = if b.val.testBit k.val then 1 else 0 := by decide +kernel
def fillB (V b j : Nat) : List Int := (bitsM V b).take j ++ List.replicate (V - j) 0
theorem bitsM_len (V b : Nat) : (bitsM V b).length = V := by simp [bitsM]
theorem fillB_zero (V b : Nat) : fillB V b 0 = List.replicate V 0 := by simp [fillB]
theorem fillB_len {V b j : Nat} (h : j ≤ V) : (fillB V b j).length = V := by simp [fillB, bitsM_len]; omega
theorem fillB_all (V b : Nat) : fillB V b V = bitsM V b := by
  unfold fillB
  rw [List.take_of_length_le (by rw [bitsM_len]; exact Nat.le_refl _)]; simp
theorem fillB_set {V b j : Nat} {y : Int} (h : j < V) (hy : y = if b.testBit j then (j : Int) + 1 else -((j : Int) + 1)) : (fillB V b j).set j y = fillB V b (j + 1) := by
  unfold fillB
  have e1 : ((bitsM V b).take j).length = j := by rw [List.length_take, bitsM_len]; omega
  rw [List.set_append_right _ _ (by omega), e1, Nat.sub_self, show V - j = (V - (j + 1)) + 1 by omega, List.replicate_succ, List.set_cons_zero]
  have e2 : (bitsM V b).take (j + 1) = (bitsM V b).take j ++ [y] := by
    rw [List.take_succ_eq_append_getElem (by rw [bitsM_len]; exact h)]
    congr 2
    rw [hy]; simp [bitsM]
  rw [e2, List.append_assoc]; rfl
def triesN (V : Nat) (l : List (List Int)) (b : Nat) : Nat := ((List.range b).filter fun b => l.all fun c => trueI c (bitsM V b)).length
theorem triesN_next (V : Nat) (l : List (List Int)) (b : Nat) : triesN V l (b + 1) = triesN V l b + if allT l (bitsM V b) = true then 1 else 0 := by
  unfold triesN
  rw [List.range_succ, List.filter_append, List.length_append]
  congr 1
  by_cases h : allT l (bitsM V b) = true
  · rw [if_pos h, List.filter_cons]
    rw [show (l.all fun c => trueI c (bitsM V b)) = true from h]; rfl
  · rw [if_neg h, List.filter_cons]
    rw [show (l.all fun c => trueI c (bitsM V b)) = false by simpa [allT] using h]; rfl
theorem triesN_le (V : Nat) (l : List (List Int)) (b : Nat) : triesN V l b ≤ b := by
  unfold triesN
  refine Nat.le_trans (List.length_filter_le _ _) ?_
  simp
theorem pos_isM43 {V : Nat} {m : List Int} (hl : m.length = V) (h : PosL m) : IsM V m := ⟨hl, fun k hk => by
  have := h k m[k] (List.getElem?_eq_getElem hk)
  omega⟩
set_option linter.unusedSimpArgs false
set_option linter.unusedVariables false
set_option maxHeartbeats 2000000
set_option maxRecDepth 100000
theorem good43_p (V : Int) (l : List (List Int)) (k : Int) : Fn Try.prog 26 [dS Cls (V, l), dI k] (dB (fewB V l && (decide (checkI V l = 0) && decide (V ≤ k)))) := by
  (refine Fn.intro1 Try.func26 rfl rfl ?_; simp only [Try.ntmps26, List.length_cons, List.length_nil, Nat.reduceAdd, Nat.reduceSub, List.replicate_succ, List.replicate_zero, List.cons_append, List.nil_append])
  have h1 := few43_p V l
  have h2 := rcheck43_p V l
  generalize fewB V l = f at *
  by_cases hc : checkI V l = 0 <;> by_cases hv : V ≤ k <;> cases f <;>
  (((repeat' (first | (apply WL.opN; exact yF; dsimp only [setD, z0, z1]) | refine WL.nil ?_ | refine WC.seqK fun Kx hK => ?_ | (refine hK _ _ ?_; clear hK) | refine WC.region ?_ | (apply WL.opG; (focus (first | exact wN | (apply SYG.yes; (exact wY); ((first | (apply SY.call (h1) Try.call36; (exact aD)) | (apply SY.call (h2) Try.call37; (exact aD)) | ((first | apply SY.move | apply SY.assign | apply SY.leq | apply SY.eql) <;> (exact oD)) | (apply SY.load; (exact tD); (exact oD)) | (apply SY.fldP0 clT; exact OpD.t rfl) | (apply SY.fldP1 clT; exact OpD.t rfl) | (apply SY.pickT; (exact oD); (with_reducible rfl); (exact oD)) | (apply SY.pickF; (exact oD); (with_reducible rfl); (exact oD)) | (apply SY.box; (exact oD); (exact hD)) | fail); all_goals infer_instance)))); dsimp only [setD, z0, z1]) | ((first | refine WL.caseP rfl rfl rfl (fun h => ?_) (fun h => ?_) | refine WL.caseN rfl rfl rfl (fun h => ?_) (fun h => ?_) | refine WL.caseB rfl rfl rfl (fun h => ?_) (fun h => ?_)) <;> (first | (exfalso; first | omega | contradiction) | (dsimp only [z0, z1]))) | refine WC.ret ?_)); all_goals (first | ((repeat clear hK); (repeat clear Kx)))); all_goals try (exfalso; first | contradiction | omega)); all_goals ((refine ⟨trivial, _, rfl, ?_⟩; (first | exact fD | refine FinD.b ?_)); try simp [hc, hv])
theorem solve_verdict {V : Nat} {l : List (List Int)} {v : Int} {m : List Int} {p : List (List Int)} (h : SolveR V l v m p) : (v = 1 ∧ 0 < (allF V l []).length) ∨ (v = 2 ∧ (allF V l []).length = 0) := by
  rcases h.is with ⟨h1, _, h2⟩ | ⟨h1, _, _, h2, _⟩
  · exact .inl ⟨h1, List.length_pos_of_mem h2⟩
  · exact .inr ⟨h1, by rw [unsB_iff.1 h2]; rfl⟩
set_option maxHeartbeats 16000000 in
theorem tries_p (V : Int) (l : List (List Int)) (hr : IRR l) : Fn Try.prog 8 [dS Cls (V, l)] (dB true) := by
  have haw := awake_p
  have hg := good43_p V l 8
  cases hq : (fewB V l && (decide (checkI V l = 0) && decide (V ≤ 8))) with
  | false =>
    rw [hq] at hg
    (refine Fn.intro1 Try.func8 rfl rfl ?_; simp only [Try.ntmps8, List.length_cons, List.length_nil, Nat.reduceAdd, Nat.reduceSub, List.replicate_succ, List.replicate_zero, List.cons_append, List.nil_append])
    ((repeat' (first | (apply WL.opN; exact yF; dsimp only [setD, z0, z1]) | refine WL.nil ?_ | refine WC.seqK fun Kx hK => ?_ | (refine hK _ _ ?_; clear hK) | refine WC.region ?_ | (apply WL.opG; (focus (first | exact wN | (apply SYG.yes; (exact wY); ((first | (apply SY.call (hg) Try.call26; (exact aD)) | (apply SY.call (haw) Try.call21; (exact aD)) | ((first | apply SY.move | apply SY.assign | apply SY.lss | apply SY.gtr | apply SY.eql | apply SY.neq | apply SY.and | apply SY.not) <;> (exact oD)) | (apply SY.box; (exact oD); (exact hD)) | fail); all_goals infer_instance)))); dsimp only [setD, z0, z1]) | (apply WC.condNB; (exact oD); all_goals (intro h; try exact xD)) | refine WC.ret ?_ | refine ThenD.r ?_)); all_goals (first | ((repeat clear hK); (repeat clear Kx))))
    all_goals try (exfalso; first | contradiction | omega)
    (refine ⟨trivial, _, rfl, ?_⟩; exact fD)
  | true =>
    rw [hq] at hg
    simp only [Bool.and_eq_true, decide_eq_true_eq] at hq
    obtain ⟨_, hck, hV8⟩ := hq
    obtain ⟨N, rfl⟩ : ∃ N : Nat, V = (N : Int) := ⟨V.toNat, by have := (checkI_zero hck).1; omega⟩
    have hN8 : N ≤ 8 := by omega
    have hsh := shl_one N (by omega)
    have hpw : 2 ^ N ≤ 256 := Nat.le_trans (Nat.pow_le_pow_right (by decide) hN8) (by decide)
    have hs := solve_c N l (by omega) hck
    have hcn := count43_p N l (by omega) hck
    have htr : triesN N l (2 ^ N) = (allF N l []).length := tries_all l N
    generalize 2 ^ N = M at hsh hpw htr
    have h8 : 8 * N ≤ 281474976710656 := by omega
    (refine Fn.intro1 Try.func8 rfl rfl ?_; simp only [Try.ntmps8, List.length_cons, List.length_nil, Nat.reduceAdd, Nat.reduceSub, List.replicate_succ, List.replicate_zero, List.cons_append, List.nil_append])
    (repeat' (first | (apply WL.opN; exact yF; dsimp only [setD, z0, z1]) | refine WL.nil ?_ | refine WC.seqK fun Kx hK => ?_ | (refine hK _ _ ?_; clear hK) | refine WC.region ?_ | (apply WL.opG; (focus (first | exact wN | (apply SYG.yes; (exact wY); ((first | (apply SY.call (hg) Try.call26; (exact aD)) | (exact SY.shlE hsh (by omega) OpD.i (OpD.t rfl)) | ((first | apply SY.move | apply SY.assign | apply SY.lss | apply SY.gtr | apply SY.eql | apply SY.neq | apply SY.and | apply SY.not) <;> (exact oD)) | (apply SY.fldP0 clT; exact OpD.t rfl) | (apply SY.fldP1 clT; exact OpD.t rfl) | (apply SY.box; (exact oD); (exact hD)) | fail); all_goals infer_instance)))); dsimp only [setD, z0, z1]) | (apply WC.condNB; (exact oD); all_goals (intro h; try exact xD)) | refine WC.skip ?_ | refine WC.block ?_))
    all_goals try (exfalso; first | contradiction | omega)
    (refine WC.loopU (X := Nat) (fun b => [(23, dI (b : Int)), (3, dI ((triesN N l b : Nat) : Int)), (2, dA), (4, dA), (5, dA), (6, dA), (7, dA), (8, dA), (9, dA), (24, dA), (25, dA), (26, dA), (27, dA), (28, dA), (29, dA), (30, dA), (31, dA), (32, dA), (33, dA), (34, dA), (35, dA), (36, dA), (37, dA), (38, dA), (39, dA), (40, dA), (41, dA), (42, dA), (43, dA), (44, dA), (45, dA), (46, dA), (47, dA), (48, dA), (49, dA), (50, dA), (51, dA), (52, dA), (53, dA), (54, dA), (55, dA), (56, dA), (57, dA), (58, dA), (59, dA)]) (fun b => ([])) (fun b => M - b) (fun b => b ≤ M) 0 ?start ?frame0 ?objs0 ?round)
    case start => exact Nat.zero_le _
    case frame0 => ((try dsimp only [upds, z0, z1]); repeat (first | exact LeF.nil | refine LeF.co (k := ?_)))
    case objs0 => rfl
    case round =>
      rintro b hbM
      dsimp only [upds, z0, z1]
      by_cases hbl : b < M
      · have hltb : (b : Int) < (M : Int) := by omega
        (repeat' (first | (apply WL.opN; exact yF; dsimp only [setD, z0, z1]) | refine WL.nil ?_ | refine WC.seqK fun Kx hK => ?_ | (refine hK _ _ ?_; clear hK) | refine WC.region ?_ |  (refine WL.makeI elI (OpD.t rfl) (OpD.t rfl) rfl h8 (by omega) fun v => ?_; dsimp only [setD, z0, z1]) | (apply WL.opG; (focus (first | exact wN | (apply SYG.yes; (exact wY); ((first | (exact SY.lenRE (by simp : (List.replicate N (0 : Int)).length = N) (OpD.t rfl) (mAt 0 rfl) elI.unt) | ((first | apply SY.move | apply SY.assign | apply SY.lss | apply SY.gtr | apply SY.eql | apply SY.neq | apply SY.and | apply SY.not) <;> (exact oD)) | (apply SY.fldP0 clT; exact OpD.t rfl) | (apply SY.fldP1 clT; exact OpD.t rfl) | fail); all_goals infer_instance)))); dsimp only [setD, z0, z1]) | (apply WC.condD; (exact oD); all_goals (intro h; try exact xD)) | refine WC.skip ?_ | refine WC.block ?_))
        all_goals try (exfalso; first | contradiction | omega)
        (refine WC.loopU (X := Nat) (fun j => [(31, dI (j : Int)), (6, dA), (32, dA), (33, dA), (34, dA), (35, dA), (36, dA), (37, dA), (38, dA), (39, dA), (40, dA), (41, dA), (42, dA), (43, dA), (44, dA), (45, dA), (46, dA)]) (fun j => ([hRow v tI RI (fillB N b j)])) (fun j => N - j) (fun j => j ≤ N) 0 ?start ?frame0 ?objs0 ?round)
        case start => exact Nat.zero_le _
        case frame0 => ((try dsimp only [upds, z0, z1]); repeat (first | exact LeF.nil | refine LeF.co (k := ?_)))
        case objs0 => rw [fillB_zero]
        case round =>
          rintro j hj
          dsimp only [upds, z0, z1]
          by_cases hjl : j < N
          · have hltj : (j : Int) < (N : Int) := by omega
            have hfl : j < (fillB N b j).length := by rw [fillB_len hj]; exact hjl
            have hbit := bit43 ⟨b, by omega⟩ ⟨j, by omega⟩
            simp only at hbit
            by_cases ht : b.testBit j = true
            · rw [if_pos ht] at hbit
              have et : (fillB N b j).set j (((j : Int) + 1) * (2 * 1 - 1)) = fillB N b (j + 1) := fillB_set hjl (by rw [if_pos ht]; omega)
              ((repeat' (first | (apply WL.opN; exact yF; dsimp only [setD, z0, z1]) | refine WL.nil ?_ | refine WC.seqK fun Kx hK => ?_ | (refine hK _ _ ?_; clear hK) | refine WC.region ?_ |  (refine WL.ofSW (SW.storeR tyI (OpD.t rfl) (OpD.t rfl) shape_I hfl) fun _ => ?_; dsimp only [setD, z0, z1]) | (apply WL.opG; (focus (first | exact wN | (apply SYG.yes; (exact wY); ((first | (exact SY.shr (OpD.t rfl) (OpD.t rfl) (by omega)) | (exact SY.andE43 hbit (OpD.t rfl) OpD.i) | (exact SY.ixR elI (OpD.t rfl) (mAt 0 rfl) (OpD.t rfl) rfl hfl) | ((first | apply SY.move | apply SY.assign | apply SY.lss | apply SY.gtr | apply SY.eql | apply SY.neq | apply SY.and | apply SY.not) <;> (exact oD)) | ((first | apply SY.add | apply SY.sub | apply SY.mul) <;> first | exact oD | omega) | fail); all_goals infer_instance)))); dsimp only [setD, z0, z1]) | (apply WC.condD; (exact oD); all_goals (intro h; try exact xD)) | refine WC.skip ?_ | refine WC.block ?_ | refine ThenD.n ?_)); all_goals (first | ((repeat clear hK); (repeat clear Kx))))
              all_goals try (exfalso; first | contradiction | omega)
              rw [et]
              (refine ⟨j + 1, ?_, by first | omega | (simp only; omega), rfl, ?_⟩; rotate_left; ((try dsimp only [upds, z0, z1]); repeat (first | exact LeF.nil | refine LeF.co (k := ?_))); (try dsimp only))
              omega
            · rw [if_neg ht] at hbit
              have et : (fillB N b j).set j (((j : Int) + 1) * (2 * 0 - 1)) = fillB N b (j + 1) := fillB_set hjl (by rw [if_neg ht]; omega)
              ((repeat' (first | (apply WL.opN; exact yF; dsimp only [setD, z0, z1]) | refine WL.nil ?_ | refine WC.seqK fun Kx hK => ?_ | (refine hK _ _ ?_; clear hK) | refine WC.region ?_ |  (refine WL.ofSW (SW.storeR tyI (OpD.t rfl) (OpD.t rfl) shape_I hfl) fun _ => ?_; dsimp only [setD, z0, z1]) | (apply WL.opG; (focus (first | exact wN | (apply SYG.yes; (exact wY); ((first | (exact SY.shr (OpD.t rfl) (OpD.t rfl) (by omega)) | (exact SY.andE43 hbit (OpD.t rfl) OpD.i) | (exact SY.ixR elI (OpD.t rfl) (mAt 0 rfl) (OpD.t rfl) rfl hfl) | ((first | apply SY.move | apply SY.assign | apply SY.lss | apply SY.gtr | apply SY.eql | apply SY.neq | apply SY.and | apply SY.not) <;> (exact oD)) | ((first | apply SY.add | apply SY.sub | apply SY.mul) <;> first | exact oD | omega) | fail); all_goals infer_instance)))); dsimp only [setD, z0, z1]) | (apply WC.condD; (exact oD); all_goals (intro h; try exact xD)) | refine WC.skip ?_ | refine WC.block ?_ | refine ThenD.n ?_)); all_goals (first | ((repeat clear hK); (repeat clear Kx))))
              all_goals try (exfalso; first | contradiction | omega)
              rw [et]
              (refine ⟨j + 1, ?_, by first | omega | (simp only; omega), rfl, ?_⟩; rotate_left; ((try dsimp only [upds, z0, z1]); repeat (first | exact LeF.nil | refine LeF.co (k := ?_))); (try dsimp only))
              omega
          · have hltj : ¬ (j : Int) < (N : Int) := by omega
            obtain rfl : j = N := by omega
            rw [fillB_all]
            (repeat' (first |  (refine WC.only 13 (Halt.go ?_)) | refine WL.nil ?_ | refine WC.seqK fun Kx hK => ?_ | (refine hK _ _ ?_; clear hK) | (refine Kont.skip ?_; clear hK) | refine WC.region ?_ | (apply WL.opG; (focus (first | exact wN | (apply SYG.yes; (exact wY); ((first | ((first | apply SY.move | apply SY.assign | apply SY.lss | apply SY.gtr | apply SY.eql | apply SY.neq | apply SY.and | apply SY.not) <;> (exact oD)) | fail); all_goals infer_instance)))); dsimp only [setD, z0, z1]) | (apply WC.condD; (exact oD); all_goals (intro h; try exact xD)) | refine WC.exit ?_))
            all_goals try (exfalso; first | contradiction | omega)
            refine ⟨WC.keep1 (s := 5) rfl ?_⟩
            dsimp only [z0, z1]
            obtain ⟨bp1, bp2⟩ := bits_pos j b
            have he := eval43_p j l (bitsM j b) hr hck (pos_isM43 bp1 bp2)
            have hnx := triesN_next j l b
            have hle := triesN_le j l b
            cases ht : allT l (bitsM j b) with
            | true =>
              rw [ht] at he
              rw [ht, if_pos rfl] at hnx
              have hnI : ((triesN j l b : Nat) : Int) + 1 = ((triesN j l (b + 1) : Nat) : Int) := by rw [hnx]; omega
              ((repeat' (first | (apply WL.opN; exact yF; dsimp only [setD, z0, z1]) | refine WL.nil ?_ | refine WC.seqK fun Kx hK => ?_ | (refine hK _ _ ?_; clear hK) | refine WC.region ?_ | (apply WL.opG; (focus (first | exact wN | (apply SYG.yes; (exact wY); ((first | (apply SY.call (he) Try.call14; (exact aD)) | ((first | apply SY.move | apply SY.assign | apply SY.lss | apply SY.gtr | apply SY.eql | apply SY.neq | apply SY.and | apply SY.not) <;> (exact oD)) | ((first | apply SY.add | apply SY.sub | apply SY.mul) <;> first | exact oD | omega) | (apply SY.extract; (exact oD); rfl) | fail); all_goals infer_instance)))); dsimp only [setD, z0, z1]) | (apply WC.condT; (exact oD); (with_reducible rfl)) | (apply WC.condN; (exact oD); all_goals (intro h; try exact xD)) | refine WC.skip ?_ | refine ThenD.n ?_)); all_goals (first | ((repeat clear hK); (repeat clear Kx))))
              all_goals try (exfalso; first | contradiction | omega)
              rw [hnI]
              (refine ⟨b + 1, ?_, by first | omega | (simp only; omega), rfl, ?_⟩; rotate_left; ((try dsimp only [upds, z0, z1]); repeat (first | exact LeF.nil | refine LeF.co (k := ?_))); (try dsimp only))
              omega
            | false =>
              rw [ht] at he
              have hnx : triesN j l (b + 1) = triesN j l b := by rw [hnx, ht]; rfl
              ((repeat' (first | (apply WL.opN; exact yF; dsimp only [setD, z0, z1]) | refine WL.nil ?_ | refine WC.seqK fun Kx hK => ?_ | (refine hK _ _ ?_; clear hK) | refine WC.region ?_ | (apply WL.opG; (focus (first | exact wN | (apply SYG.yes; (exact wY); ((first | (apply SY.call (he) Try.call14; (exact aD)) | ((first | apply SY.move | apply SY.assign | apply SY.lss | apply SY.gtr | apply SY.eql | apply SY.neq | apply SY.and | apply SY.not) <;> (exact oD)) | ((first | apply SY.add | apply SY.sub | apply SY.mul) <;> first | exact oD | omega) | (apply SY.extract; (exact oD); rfl) | fail); all_goals infer_instance)))); dsimp only [setD, z0, z1]) | (apply WC.condF; (exact oD); (with_reducible rfl)) | (apply WC.condN; (exact oD); all_goals (intro h; try exact xD)) | refine WC.skip ?_ | refine ThenD.n ?_)); all_goals (first | ((repeat clear hK); (repeat clear Kx))))
              all_goals try (exfalso; first | contradiction | omega)
              rw [← hnx]
              (refine ⟨b + 1, ?_, by first | omega | (simp only; omega), rfl, ?_⟩; rotate_left; ((try dsimp only [upds, z0, z1]); repeat (first | exact LeF.nil | refine LeF.co (k := ?_))); (try dsimp only))
              omega
      · have hltb : ¬ (b : Int) < (M : Int) := by omega
        obtain rfl : b = M := by omega
        rw [htr]
        (repeat' (first |  (refine WC.only 20 (Halt.go ?_)) | (apply WL.opN; exact yF; dsimp only [setD, z0, z1]) | refine WL.nil ?_ | refine WC.seqK fun Kx hK => ?_ | (refine hK _ _ ?_; clear hK) | (refine Kont.skip ?_; clear hK) | refine WC.region ?_ |  (refine WL.callC (hp1 := []) (caps := []) hs Try.call16 OpD.f (ArgsD.cons (OpD.t rfl) ArgsD.nil) ?_; rintro d' hp2 ⟨rfl, e2, e3, e4, e5, rfl, v, m, p, rfl, rfl, rfl, rfl, hR1⟩; dsimp only [setD, z0, z1, List.nil_append]) | (apply WL.opG; (focus (first | exact wN | (apply SYG.yes; (exact wY); ((first | ((first | apply SY.move | apply SY.assign | apply SY.lss | apply SY.gtr | apply SY.eql | apply SY.neq | apply SY.and | apply SY.not) <;> (exact oD)) | (apply SY.extract; (exact oD); rfl) | fail); all_goals infer_instance)))); dsimp only [setD, z0, z1]) | (apply WC.condD; (exact oD); all_goals (intro h; try exact xD)) | refine WC.exit ?_))
        all_goals try (exfalso; first | contradiction | omega)
        refine ⟨?_⟩
        rcases solve_verdict hR1 with ⟨rfl, hp0⟩ | ⟨rfl, hp0⟩
        · clear hR1
          generalize (allF N l []).length = n at *
          have hb1 : decide ((1 : Int) = 1) = decide ((0 : Int) < (n : Int)) := by rw [decide_eq_true rfl, decide_eq_true (by omega)]
          have hb2 : decide ((1 : Int) = 2) = decide ((n : Int) = 0) := by rw [decide_eq_false (by decide), decide_eq_false (by omega)]
          ((repeat' (first | (apply WL.opN; exact yF; dsimp only [setD, z0, z1]) | refine WL.nil ?_ | refine WC.seqK fun Kx hK => ?_ | (refine hK _ _ ?_; clear hK) | refine WC.region ?_ | (apply WL.opG; (focus (first | exact wN | (apply SYG.yes; (exact wY); ((first | (apply SY.call (hcn) Try.call15; (exact aD)) | (apply SY.call (haw) Try.call21; (exact aD)) | ((first | apply SY.move | apply SY.assign | apply SY.lss | apply SY.gtr | apply SY.eql | apply SY.neq | apply SY.and | apply SY.not) <;> (exact oD)) | ((first | apply SY.add | apply SY.sub | apply SY.mul) <;> first | exact oD | omega) | (apply SY.eqlB; (exact oD); (exact oD); exact eqBB) | (apply SY.pickT; (exact oD); (with_reducible rfl); (exact oD)) | (apply SY.extract; (exact oD); rfl) | fail); all_goals infer_instance)))); dsimp only [setD, z0, z1]) | ((first | refine WL.caseP rfl rfl rfl (fun h => ?_) (fun h => ?_) | refine WL.caseN rfl rfl rfl (fun h => ?_) (fun h => ?_) | refine WL.caseB rfl rfl rfl (fun h => ?_) (fun h => ?_)) <;> (first | (exfalso; first | omega | contradiction) | (dsimp only [z0, z1]))) | refine WC.ret ?_)); all_goals (first | ((repeat clear hK); (repeat clear Kx))))
          all_goals try (exfalso; first | contradiction | omega)
          (refine ⟨trivial, _, rfl, ?_⟩; exact fD)
        · clear hR1
          generalize (allF N l []).length = n at *
          have hb1 : decide ((2 : Int) = 1) = decide ((0 : Int) < (n : Int)) := by rw [decide_eq_false (by decide), decide_eq_false (by omega)]
          have hb2 : decide ((2 : Int) = 2) = decide ((n : Int) = 0) := by rw [decide_eq_true rfl, decide_eq_true (by omega)]
          ((repeat' (first | (apply WL.opN; exact yF; dsimp only [setD, z0, z1]) | refine WL.nil ?_ | refine WC.seqK fun Kx hK => ?_ | (refine hK _ _ ?_; clear hK) | refine WC.region ?_ | (apply WL.opG; (focus (first | exact wN | (apply SYG.yes; (exact wY); ((first | (apply SY.call (hcn) Try.call15; (exact aD)) | (apply SY.call (haw) Try.call21; (exact aD)) | ((first | apply SY.move | apply SY.assign | apply SY.lss | apply SY.gtr | apply SY.eql | apply SY.neq | apply SY.and | apply SY.not) <;> (exact oD)) | ((first | apply SY.add | apply SY.sub | apply SY.mul) <;> first | exact oD | omega) | (apply SY.eqlB; (exact oD); (exact oD); exact eqBB) | (apply SY.pickT; (exact oD); (with_reducible rfl); (exact oD)) | (apply SY.extract; (exact oD); rfl) | fail); all_goals infer_instance)))); dsimp only [setD, z0, z1]) | ((first | refine WL.caseP rfl rfl rfl (fun h => ?_) (fun h => ?_) | refine WL.caseN rfl rfl rfl (fun h => ?_) (fun h => ?_) | refine WL.caseB rfl rfl rfl (fun h => ?_) (fun h => ?_)) <;> (first | (exfalso; first | omega | contradiction) | (dsimp only [z0, z1]))) | refine WC.ret ?_)); all_goals (first | ((repeat clear hK); (repeat clear Kx))))
          all_goals try (exfalso; first | contradiction | omega)
          (refine ⟨trivial, _, rfl, ?_⟩; exact fD)
end Go.Proofs.Ytpiidgcljlalmaa
namespace Go.Proofs.Ytpiidgcljlalmaa
open Go.ChangeShapes Go.WideShapes Go.ChangeAt Go.RowKit
set_option maxRecDepth 100000

theorem own : ownKnob Try.prog.godebug = none := by kernel_rfl
theorem laidOut : laidOutB Try.prog = true := by kernel_rfl
theorem cellsOfI : Try.prog.cellsOf 3 = 1 := by kernel_rfl
theorem cellsOfR : Try.prog.cellsOf 25 = 1 := by kernel_rfl

section
variable {H : Type} {enc : TypeId × Value → H}

theorem irr_of_wf {n : Int} (h : (Lit.int .i64 n).wf = true) : IR n := by
  simpa [Lit.wf, IntKind.min, IntKind.max, IntKind.signed, IntKind.bits, IR] using h

theorem arr_at {α : Type} {R : Rel α} {w : World} {a : Addr} {cap : Nat} {xs : List α} (hl : xs.length ≤ cap) (hm : cap ≤ maxLen) (h : ∀ k (hk : k < xs.length), ∃ u, R anyB w u xs[k] ∧ u.oneCell' = true ∧ w.cell? (a.add k) = some u) :
    Arr R anyB w (.slice (some a) xs.length cap) xs := by
  refine ⟨some a, cap, rfl, hl, hm, fun k hk => ?_⟩
  obtain ⟨u, h1, h2, h3⟩ := h k hk
  obtain ⟨u0, _, _, h0⟩ := h 0 (by omega)
  have hs := World.cell?_spot h0
  obtain ⟨b, off, sp⟩ := a
  obtain rfl : sp = none := by simpa [Addr.add] using hs
  exact ⟨u, b, off, h1, h2, rfl, trivial, by rw [Addr.add_lit] at h3; exact h3⟩

theorem open_I {w : World} {fuel : Nat} {v : Value} {x : DataW H × List MemPlace} (h : DataW.trod enc Try.prog w 0 (fun _ => true) true fuel 25 [v] = some x) :
    ∃ zs, Ints anyB w v zs ∧ ∀ z ∈ zs, IR z := by
  rcases open_ints Try.underlying25 Try.underlying3 cellsOfI h with ⟨hc, _⟩ | ⟨a, len, cap, zs, hc, _, hl, hm, hz, _, hcell, hw⟩
  · obtain rfl : v = .slice none 0 0 := by simpa using hc
    exact ⟨[], Arr.nil', fun z hz => by cases hz⟩
  · obtain rfl : v = .slice (some a) len cap := by simpa using hc
    simp only [if_true] at hz
    have hlen : (zs.take len).length = len := by simp; omega
    refine ⟨zs.take len, ?_, fun z hz' => irr_of_wf (hw z (List.mem_of_mem_take hz'))⟩
    have := arr_at (R := RI) (w := w) (a := a) (cap := cap) (xs := zs.take len) (by omega) hm (fun k hk => ⟨_, rfl, rfl, by
      rw [hcell k (by omega)]
      rw [List.getElem_take, List.getD_eq_getElem?_getD, List.getElem?_eq_getElem (by omega)]; rfl⟩)
    rw [hlen] at this
    exact this
theorem open_I' {w : World} {r : Reach} {b0 : Nat} {v : Value} {d : DataW H} {ps : List MemPlace} (hv : Value.okWide Try.prog w r b0 25 v) (h : DataW.Trod enc Try.prog w 0 (fun _ => true) true 25 v d ps) : ∃ zs, Ints anyB w v zs ∧ ∀ z ∈ zs, IR z := by
  obtain ⟨fuel, h⟩ := h
  obtain ⟨a, len, cap, rfl⟩ := okWide_slice Try.underlying25 hv
  exact open_I h

theorem open_R {w : World} {fuel : Nat} {v : Value} {x : DataW H × List MemPlace} (h : DataW.trod enc Try.prog w 0 (fun _ => true) true fuel 22 [v] = some x) :
    ∃ l, Rows anyB w v l ∧ IRR l := by
  rcases Deep.open_int_rows Try.underlying22 Try.underlying25 Try.underlying3 cellsOfR cellsOfI h with ⟨hc, _⟩ | ⟨a, len, cap, A, L, C, Z, hc, _, hl, hm, _, hr⟩
  · obtain rfl : v = .slice none 0 0 := by simpa using hc
    exact ⟨[], Arr.nil', fun z hz => by cases hz⟩
  · obtain rfl : v = .slice (some a) len cap := by simpa using hc
    have hlen : ((List.range len).map fun r => (Z r).take (L r)).length = len := by simp
    refine ⟨(List.range len).map fun r => (Z r).take (L r), ?_, ?_⟩
    · have := arr_at (R := Arr RI) (w := w) (a := a) (cap := cap) (xs := (List.range len).map fun r => (Z r).take (L r)) (by omega) hm (fun k hk => by
        rw [hlen] at hk
        obtain ⟨h1, h2, h3, h4, h5, h6, h7⟩ := hr k (by omega)
        refine ⟨_, ?_, rfl, h1⟩
        simp only [List.getElem_map, List.getElem_range]
        have hlk : ((Z k).take (L k)).length = L k := by simp; omega
        cases hA : A k with
        | none =>
          have hC := h6 hA
          have hz : (Z k).take (L k) = [] := List.eq_nil_of_length_eq_zero (by omega)
          rw [hz, show L k = 0 from by omega]
          exact Arr.nil none (C k) (by omega)
        | some a' =>
          have := arr_at (R := RI) (w := w) (a := a') (cap := C k) (xs := (Z k).take (L k)) (by omega) h3 (fun j hj => ⟨_, rfl, rfl, by
            rw [(h7 a' hA).2 j (by omega), List.getElem_take, List.getD_eq_getElem?_getD, List.getElem?_eq_getElem (by omega)]; rfl⟩)
          rw [hlk] at this
          exact this)
      rw [hlen] at this
      exact this
    · intro c hc x hx
      simp only [List.mem_map, List.mem_range] at hc
      obtain ⟨r, hr', rfl⟩ := hc
      obtain ⟨_, _, _, _, h5, _, _⟩ := hr r (by omega)
      exact irr_of_wf (h5 x (List.mem_of_mem_take hx))
theorem open_R' {w : World} {r : Reach} {b0 : Nat} {v : Value} {d : DataW H} {ps : List MemPlace} (hv : Value.okWide Try.prog w r b0 22 v) (h : DataW.Trod enc Try.prog w 0 (fun _ => true) true 22 v d ps) : ∃ l, Rows anyB w v l ∧ IRR l := by
  obtain ⟨fuel, h⟩ := h
  obtain ⟨a, len, cap, rfl⟩ := okWide_slice Try.underlying22 hv
  exact open_R h

theorem open_C {w : World} {r : Reach} {b0 : Nat} {v : Value} {d : DataW H} {ps : List MemPlace} (hv : Value.okWide Try.prog w r b0 24 v) (h : DataW.Trod enc Try.prog w 0 (fun _ => true) true 24 v d ps) :
    ∃ (n : Int) (u : Value) (l : List (List Int)), v = .agg #[.int .i64 n, u] ∧ Rows anyB w u l ∧ IRR l ∧ IR n := by
  obtain ⟨v0, v1, y0, y1, m, rfl, _, _, h0, h1⟩ := Joins.open_agg2 Try.underlying24 (by kernel_rfl) (by kernel_rfl) hv h
  obtain ⟨l, hl, hr⟩ := open_R h1
  obtain ⟨n, hn, _, hw⟩ := DataW.trod_int Try.underlying3 h0
  obtain rfl : v0 = .int .i64 n := by simpa using hn
  exact ⟨n, v1, l, rfl, hl, hr, irr_of_wf hw⟩
theorem open_Q' {w : World} {r : Reach} {b0 : Nat} {v : Value} {d : DataW H} {ps : List MemPlace} (hv : Value.okWide Try.prog w r b0 24 v) (h : DataW.Trod enc Try.prog w 0 (fun _ => true) true 24 v d ps) : ∃ x : Int × List (List Int), (dS Cls x).rd anyB w v ∧ IRR x.2 ∧ IR x.1 := by
  obtain ⟨n, u, l, rfl, h1, h2, h3⟩ := open_C hv h
  refine ⟨(n, l), ⟨_, _, rfl, rfl, ?_, rfl, h1⟩, h2, h3⟩
  obtain ⟨a, c, rfl, _⟩ := h1
  rfl
theorem open_Z' {w : World} {r : Reach} {b0 : Nat} {v : Value} {d : DataW H} {ps : List MemPlace} (hv : Value.okWide Try.prog w r b0 25 v) (h : DataW.Trod enc Try.prog w 0 (fun _ => true) true 25 v d ps) : ∃ x, (dS Ints x).rd anyB w v ∧ ∀ z ∈ x, IR z := open_I' hv h
theorem open_RR' {w : World} {r : Reach} {b0 : Nat} {v : Value} {d : DataW H} {ps : List MemPlace} (hv : Value.okWide Try.prog w r b0 22 v) (h : DataW.Trod enc Try.prog w 0 (fun _ => true) true 22 v d ps) : ∃ x, (dS Rows x).rd anyB w v ∧ IRR x := open_R' hv h
end

section
variable {H : Type} {enc : TypeId × Value → H}

theorem args_kept {W W' : World} (hE : Ext W W') : ∀ {ts : List TypeId} {vs : List Value} {ds : List (DataW H)} {ps : List MemPlace}, (∀ t ∈ ts, Try.prog.readableRec t = true ∧ t < Try.prog.types.size) → (∀ p ∈ ps, p.block < W.heap.size) →
    DataW.TrodAll enc Try.prog W 0 (fun _ => true) true ts vs ds ps → DataW.TrodAll enc Try.prog W' 0 (fun b => decide (b < W.heap.size)) true ts vs ds ps
  | [], _, _, _, _, _, h => by
    obtain ⟨rfl, rfl, rfl⟩ := trodAll_nil h
    exact trodAll_mk0
  | t :: ts, _, _, _, ht, hlt, h => by
    obtain ⟨v, vs1, d, ds1, a, b, rfl, rfl, rfl, h1, h2⟩ := trodAll_cons h
    exact trodAll_cons_mk (Below.trod laidOut (ht t (by simp)).1 (ht t (by simp)).2 h1 hE (fun x hx => hlt x (by simp [hx]))) (args_kept hE (fun t' h' => ht t' (by simp [h'])) (fun p hp => hlt p (by simp [hp])) h2)

theorem post_law {f : Func} {s : ChangeSpec} {W W' : World} {args : Array Value} {ds gs : List (DataW H)} {before : List MemPlace} (hW : DataW.Whole enc Try.prog f.params.toList s.vars false W args.toList ds gs before) (hvars : s.vars = [])
    (hr : f.resultTypes = #[4]) (hs : s.fn H ds = { results := [.lit (.bool true)], args := ds }) (ht : ∀ t ∈ f.params.toList, Try.prog.readableRec t = true ∧ t < Try.prog.types.size) (hE : Ext W W') :
    s.post enc Try.prog f false true false false W args (.bool true) W' := by
  have hlt := hW.lt
  have hW' := hW
  obtain ⟨p, q, hA, hV, rfl, hfz, hnd⟩ := hW
  rw [hvars] at hV
  obtain ⟨rfl, rfl⟩ := trodVars_none hV
  refine ⟨ds, [], p ++ [], [], p, [], hW', ?_, ?_, ?_, hE.frame _, fun h => by cases h⟩
  · rw [hr, List.append_nil, hs]
    exact trodAll_mk1 (shut_bool Try.underlying4 true)
  · rw [List.append_nil, hs]
    exact args_kept hE ht (fun x hx => hlt x (by simp [hx])) hA
  · rw [hvars, List.append_nil, hs]
    rfl
theorem fn_law {f : FuncId} {ds : List Dat} (hF : Fn Try.prog f ds (dB true)) {W : World} {vs : List Value} (hl : vs.length = ds.length) (h : ∀ (i : Nat) (d : Dat), ds[i]? = some d → d.rd anyB W (vs.getD i undef)) :
    Calls Try.prog f vs.toArray W fun e W' => e = .returned (.bool true) ∧ Ext W W' :=
  (hF.out anyB W vs hl h).mono fun _ _ ⟨_, h1, h2, h3⟩ => by cases (h3 : _ = _); exact ⟨h1, h2⟩
end
end Go.Proofs.Ytpiidgcljlalmaa
