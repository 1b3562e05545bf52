/- Part 10: walks by contracts, and plain laws. -/
import Derived.Test.YtpiidgcljlalmaaVb7
import Derived.Test.YtpiidgcljlalmaaVb9
set_option linter.unusedVariables false
set_option linter.unusedSimpArgs false
set_option linter.unusedSectionVars false
namespace Go.Proofs.Ytpiidgcljlalmaa
open Go.RowKit
def modR (V : Int) (l : List (List Int)) (most : Int) : List (List Int) × Int :=
  if checkI V l ≠ 0 then ([], checkI V l) else if most < 0 ∨ 1024 < most then ([], 2) else if ((allF V.toNat l []).length : Int) ≤ most then (allF V.toNat l [], 0) else ([], 5)
def cntR (V : Int) (l : List (List Int)) : Int × Int := if checkI V l ≠ 0 then (0, checkI V l) else (((allF V.toNat l []).length : Int), 0)
def few43B (V : Int) (l : List (List Int)) : Bool := fewB V l && (decide (V ≤ 10) || decide (checkI V l ≠ 0))
set_option linter.unusedSimpArgs false
set_option linter.unusedVariables false
set_option maxHeartbeats 2000000
set_option maxRecDepth 100000
theorem few43r_p (V : Int) (l : List (List Int)) : Fn Try.prog 20 [dS Cls (V, l)] (dB (few43B V l)) := by
  (refine Fn.intro1 Try.func20 rfl rfl ?_; simp only [Try.ntmps20, List.length_cons, List.length_nil, Nat.reduceAdd, Nat.reduceSub, List.replicate_succ, List.replicate_zero, List.cons_append, List.nil_append])
  have h1 := few43_p V l
  have h2 := rcheck43_p V l
  unfold few43B
  generalize fewB V l = f at *
  by_cases hc : checkI V l = 0 <;> by_cases hv : V ≤ 10 <;> cases f <;>
  (((repeat' (first | (apply WL.opN; exact yF; dsimp only [setD, z0, z1]) | refine WL.nil ?_ | refine WC.seqK fun Kx hK => ?_ | (refine hK _ _ ?_; clear hK) | refine WC.region ?_ |  (apply WL.opG; (focus (apply SYG.no; exact want_undef rfl rfl rfl)); dsimp only [setD, z0, z1]) | (apply WL.opG; (focus (first | exact wN | (apply SYG.yes; (exact wY); ((first | (apply SY.call (h1) Try.call36; (exact aD)) | (apply SY.call (h2) Try.call37; (exact aD)) | ((first | apply SY.move | apply SY.assign | apply SY.leq | apply SY.neq) <;> (exact oD)) | (apply SY.load; (exact tD); (exact oD)) | (apply SY.fldP0 clT; exact OpD.t rfl) | (apply SY.fldP1 clT; exact OpD.t rfl) | (apply SY.pickT; (exact oD); (with_reducible rfl); (exact oD)) | (apply SY.pickF; (exact oD); (with_reducible rfl); (exact oD)) | (apply SY.box; (exact oD); (exact hD)) | fail); all_goals infer_instance)))); dsimp only [setD, z0, z1]) | ((first | refine WL.caseP rfl rfl rfl (fun h => ?_) (fun h => ?_) | refine WL.caseN rfl rfl rfl (fun h => ?_) (fun h => ?_) | refine WL.caseB rfl rfl rfl (fun h => ?_) (fun h => ?_)) <;> (first | (exfalso; first | omega | contradiction) | (dsimp only [z0, z1]))) | refine WC.ret ?_)); all_goals (first | ((repeat clear hK); (repeat clear Kx)))); all_goals try (exfalso; first | contradiction | omega)); all_goals ((refine ⟨trivial, _, rfl, ?_⟩; (first | exact fD | refine FinD.b ?_)); try simp [hc, hv])
theorem listed_p (V : Int) (l : List (List Int)) (hV : V ≤ 10 ∨ checkI V l ≠ 0) : Fn Try.prog 57 [dS Cls (V, l)] (dI (checkI V l)) := by
  (refine Fn.intro1 Try.func57 rfl rfl ?_; simp only [Try.ntmps57, List.length_cons, List.length_nil, Nat.reduceAdd, Nat.reduceSub, List.replicate_succ, List.replicate_zero, List.cons_append, List.nil_append])
  have h2 := rcheck43_p V l
  by_cases hc : checkI V l = 0
  · have hv := hV.resolve_right fun h => h hc
    rw [hc] at h2 ⊢
    ((repeat' (first | (apply WL.opN; exact yF; dsimp only [setD, z0, z1]) | refine WL.nil ?_ | refine WC.seqK fun Kx hK => ?_ | (refine hK _ _ ?_; clear hK) | refine WC.region ?_ | (apply WL.opN; (focus ((first | (apply SY.call (h2) Try.call37; (exact aD)) | ((first | apply SY.move | apply SY.assign | apply SY.gtr | apply SY.neq) <;> (exact oD)) | (apply SY.fldP0 clT; exact OpD.t rfl) | (apply SY.fldP1 clT; exact OpD.t rfl) | (apply SY.box; (exact oD); (exact hD)) | fail); all_goals infer_instance)); dsimp only [setD, z0, z1]) | (apply WC.condD; (exact oD); all_goals (intro h; try exact xD)) | (apply WC.condN; (exact oD); all_goals (intro h; try exact xD)) | refine WC.skip ?_ | refine WC.ret ?_)); all_goals (first | ((repeat clear hK); (repeat clear Kx))))
    all_goals try (exfalso; first | contradiction | omega)
    (refine ⟨trivial, _, rfl, ?_⟩; exact fD)
  · ((repeat' (first | (apply WL.opN; exact yF; dsimp only [setD, z0, z1]) | refine WL.nil ?_ | refine WC.seqK fun Kx hK => ?_ | (refine hK _ _ ?_; clear hK) | refine WC.region ?_ | (apply WL.opN; (focus ((first | (apply SY.call (h2) Try.call37; (exact aD)) | ((first | apply SY.move | apply SY.assign | apply SY.gtr | apply SY.neq) <;> (exact oD)) | (apply SY.box; (exact oD); (exact hD)) | fail); all_goals infer_instance)); dsimp only [setD, z0, z1]) | (apply WC.condN; (exact oD); all_goals (intro h; try exact xD)) | refine WC.ret ?_ | refine ThenD.r ?_)); all_goals (first | ((repeat clear hK); (repeat clear Kx))))
    all_goals try (exfalso; first | contradiction | omega)
    (refine ⟨trivial, _, rfl, ?_⟩; exact fD)
theorem rmodels_p (V : Int) (l : List (List Int)) (most : Int) (hV : V ≤ 10 ∨ checkI V l ≠ 0) : Fn Try.prog 23 [dS Cls (V, l), dI most] (dT [dS Rows (modR V l most).1, dI (modR V l most).2]) := by
  have h2 := rcheck43_p V l
  have h3 := listed_p V l hV
  (refine Fn.intro2 Try.func23 rfl rfl ?_; simp only [Try.ntmps23, List.length_cons, List.length_nil, Nat.reduceAdd, Nat.reduceSub, List.replicate_succ, List.replicate_zero, List.cons_append, List.nil_append])
  by_cases hc : checkI V l = 0
  · have hv := hV.resolve_right fun h => h hc
    obtain ⟨N, rfl⟩ : ∃ N : Nat, V = (N : Int) := ⟨V.toNat, by have := (checkI_zero hc).1; omega⟩
    rw [hc] at h2 h3
    by_cases hm : most < 0 ∨ 1024 < most
    · have e : modR (N : Int) l most = ([], 2) := by unfold modR; rw [if_neg (by rw [hc]; simp), if_pos hm]
      rw [e]
      by_cases hm0 : most < 0
      · ((repeat' (first | (apply WL.opN; exact yF; dsimp only [setD, z0, z1]) | refine WL.nil ?_ | refine WC.seqK fun Kx hK => ?_ | (refine hK _ _ ?_; clear hK) | refine WC.region ?_ | (apply WL.opG; (focus (first | exact wN | (apply SYG.yes; (exact wY); ((first | (apply SY.call (h2) Try.call37; (exact aD)) | ((first | apply SY.move | apply SY.assign | apply SY.lss | apply SY.gtr | apply SY.neq) <;> (exact oD)) | (apply SY.pickT; (exact oD); (with_reducible rfl); (exact oD)) | (apply SY.box; (exact oD); (exact hD)) | fail); all_goals infer_instance)))); dsimp only [setD, z0, z1]) | ((first | refine WL.caseP rfl rfl rfl (fun h => ?_) (fun h => ?_) | refine WL.caseN rfl rfl rfl (fun h => ?_) (fun h => ?_) | refine WL.caseB rfl rfl rfl (fun h => ?_) (fun h => ?_)) <;> (first | (exfalso; first | omega | contradiction) | (dsimp only [z0, z1]))) | (apply WC.condT; (exact oD); (with_reducible rfl)) | (apply WC.condN; (exact oD); all_goals (intro h; try exact xD)) | refine WC.skip ?_ | refine WC.ret ?_ | refine ThenD.r ?_)); all_goals (first | ((repeat clear hK); (repeat clear Kx))))
        all_goals try (exfalso; first | contradiction | omega)
        (refine ⟨trivial, ⟨_, rfl, ?_⟩, _, rfl, ?_⟩ <;> exact fD)
      · have hm1 : most > 1024 := by omega
        ((repeat' (first | (apply WL.opN; exact yF; dsimp only [setD, z0, z1]) | refine WL.nil ?_ | refine WC.seqK fun Kx hK => ?_ | (refine hK _ _ ?_; clear hK) | refine WC.region ?_ | (apply WL.opG; (focus (first | exact wN | (apply SYG.yes; (exact wY); ((first | (apply SY.call (h2) Try.call37; (exact aD)) | ((first | apply SY.move | apply SY.assign | apply SY.lss | apply SY.gtr | apply SY.neq) <;> (exact oD)) | (apply SY.pickF; (exact oD); (with_reducible rfl); (exact oD)) | (apply SY.box; (exact oD); (exact hD)) | fail); all_goals infer_instance)))); dsimp only [setD, z0, z1]) | ((first | refine WL.caseP rfl rfl rfl (fun h => ?_) (fun h => ?_) | refine WL.caseN rfl rfl rfl (fun h => ?_) (fun h => ?_) | refine WL.caseB rfl rfl rfl (fun h => ?_) (fun h => ?_)) <;> (first | (exfalso; first | omega | contradiction) | (dsimp only [z0, z1]))) | (apply WC.condD; (exact oD); all_goals (intro h; try exact xD)) | (apply WC.condN; (exact oD); all_goals (intro h; try exact xD)) | refine WC.skip ?_ | refine WC.ret ?_ | refine ThenD.r ?_)); all_goals (first | ((repeat clear hK); (repeat clear Kx))))
        all_goals try (exfalso; first | contradiction | omega)
        (refine ⟨trivial, ⟨_, rfl, ?_⟩, _, rfl, ?_⟩ <;> exact fD)
    · have hm0 : ¬ most < 0 := by omega
      have hm1 : ¬ most > 1024 := by omega
      have h4 := (all_c N l (by omega) N [] (by simp)).froz0
      have e : modR (N : Int) l most = if ((allF N l []).length : Int) ≤ most then (allF N l [], 0) else ([], 5) := by unfold modR; rw [if_neg (by rw [hc]; simp), if_neg hm]; rfl
      rw [e]
      generalize allF N l [] = ms at h4 ⊢
      by_cases hle : (ms.length : Int) ≤ most
      · rw [if_pos hle]
        have hgt : ¬ (ms.length : Int) > most := by omega
        ((repeat' (first | (apply WL.opN; exact yF; dsimp only [setD, z0, z1]) | refine WL.nil ?_ | refine WC.seqK fun Kx hK => ?_ | (refine hK _ _ ?_; clear hK) | refine WC.region ?_ |  (refine WL.callC (hp := []) (hp1 := []) (caps := []) h4 Try.call58 OpD.f (ArgsD.cons (OpD.t rfl) (ArgsD.cons ⟨Dat.le_nil⟩ ArgsD.nil)) ?_; rintro d' hp2 ⟨rfl, rfl⟩; dsimp only [setD, z0, z1, List.cons_append, List.nil_append]) | (apply WL.opG; (focus (first | exact wN | (apply SYG.yes; (exact wY); ((first | (apply SY.call (h2) Try.call37; (exact aD)) | (apply SY.call (h3) Try.call57; (exact aD)) | ((first | apply SY.move | apply SY.assign | apply SY.lss | apply SY.gtr | apply SY.neq) <;> (exact oD)) | (apply SY.len; (exact oD); (exact nD); (exact uD)) | (apply SY.pickF; (exact oD); (with_reducible rfl); (exact oD)) | (apply SY.box; (exact oD); (exact hD)) | fail); all_goals infer_instance)))); dsimp only [setD, z0, z1]) | ((first | refine WL.caseP rfl rfl rfl (fun h => ?_) (fun h => ?_) | refine WL.caseN rfl rfl rfl (fun h => ?_) (fun h => ?_) | refine WL.caseB rfl rfl rfl (fun h => ?_) (fun h => ?_)) <;> (first | (exfalso; first | omega | contradiction) | (dsimp only [z0, z1]))) | (apply WC.condD; (exact oD); all_goals (intro h; try exact xD)) | (apply WC.condN; (exact oD); all_goals (intro h; try exact xD)) | refine WC.skip ?_ | refine WC.ret ?_)); all_goals (first | ((repeat clear hK); (repeat clear Kx))))
        all_goals try (exfalso; first | contradiction | omega)
        (refine ⟨trivial, ⟨_, rfl, ?_⟩, _, rfl, ?_⟩ <;> exact fD)
      · rw [if_neg hle]
        have hgt : (ms.length : Int) > most := by omega
        ((repeat' (first | (apply WL.opN; exact yF; dsimp only [setD, z0, z1]) | refine WL.nil ?_ | refine WC.seqK fun Kx hK => ?_ | (refine hK _ _ ?_; clear hK) | refine WC.region ?_ |  (refine WL.callC (hp := []) (hp1 := []) (caps := []) h4 Try.call58 OpD.f (ArgsD.cons (OpD.t rfl) (ArgsD.cons ⟨Dat.le_nil⟩ ArgsD.nil)) ?_; rintro d' hp2 ⟨rfl, rfl⟩; dsimp only [setD, z0, z1, List.cons_append, List.nil_append]) | (apply WL.opG; (focus (first | exact wN | (apply SYG.yes; (exact wY); ((first | (apply SY.call (h2) Try.call37; (exact aD)) | (apply SY.call (h3) Try.call57; (exact aD)) | ((first | apply SY.move | apply SY.assign | apply SY.lss | apply SY.gtr | apply SY.neq) <;> (exact oD)) | (apply SY.len; (exact oD); (exact nD); (exact uD)) | (apply SY.pickF; (exact oD); (with_reducible rfl); (exact oD)) | (apply SY.box; (exact oD); (exact hD)) | fail); all_goals infer_instance)))); dsimp only [setD, z0, z1]) | ((first | refine WL.caseP rfl rfl rfl (fun h => ?_) (fun h => ?_) | refine WL.caseN rfl rfl rfl (fun h => ?_) (fun h => ?_) | refine WL.caseB rfl rfl rfl (fun h => ?_) (fun h => ?_)) <;> (first | (exfalso; first | omega | contradiction) | (dsimp only [z0, z1]))) | (apply WC.condD; (exact oD); all_goals (intro h; try exact xD)) | (apply WC.condN; (exact oD); all_goals (intro h; try exact xD)) | refine WC.skip ?_ | refine WC.ret ?_ | refine ThenD.r ?_)); all_goals (first | ((repeat clear hK); (repeat clear Kx))))
        all_goals try (exfalso; first | contradiction | omega)
        (refine ⟨trivial, ⟨_, rfl, ?_⟩, _, rfl, ?_⟩ <;> exact fD)
  · have e : modR V l most = ([], checkI V l) := by unfold modR; rw [if_pos hc]
    rw [e]
    ((repeat' (first | (apply WL.opN; exact yF; dsimp only [setD, z0, z1]) | refine WL.nil ?_ | refine WC.seqK fun Kx hK => ?_ | (refine hK _ _ ?_; clear hK) | refine WC.region ?_ | (apply WL.opG; (focus (first | exact wN | (apply SYG.yes; (exact wY); ((first | (apply SY.call (h2) Try.call37; (exact aD)) | ((first | apply SY.move | apply SY.assign | apply SY.lss | apply SY.gtr | apply SY.neq) <;> (exact oD)) | (apply SY.box; (exact oD); (exact hD)) | fail); all_goals infer_instance)))); dsimp only [setD, z0, z1]) | (apply WC.condN; (exact oD); all_goals (intro h; try exact xD)) | refine WC.ret ?_ | refine ThenD.r ?_)); all_goals (first | ((repeat clear hK); (repeat clear Kx))))
    all_goals try (exfalso; first | contradiction | omega)
    (refine ⟨trivial, ⟨_, rfl, ?_⟩, _, rfl, ?_⟩ <;> exact fD)
theorem rcount_p (V : Int) (l : List (List Int)) (hV : V ≤ 10 ∨ checkI V l ≠ 0) : Fn Try.prog 24 [dS Cls (V, l)] (dT [dI (cntR V l).1, dI (cntR V l).2]) := by
  have h3 := listed_p V l hV
  (refine Fn.intro2 Try.func24 rfl rfl ?_; simp only [Try.ntmps24, List.length_cons, List.length_nil, Nat.reduceAdd, Nat.reduceSub, List.replicate_succ, List.replicate_zero, List.cons_append, List.nil_append])
  by_cases hc : checkI V l = 0
  · have hv := hV.resolve_right fun h => h hc
    obtain ⟨N, rfl⟩ : ∃ N : Nat, V = (N : Int) := ⟨V.toNat, by have := (checkI_zero hc).1; omega⟩
    rw [hc] at h3
    have h4 := (all_c N l (by omega) N [] (by simp)).froz0
    have e : cntR (N : Int) l = (((allF N l []).length : Int), 0) := by unfold cntR; rw [if_neg (by rw [hc]; simp)]; rfl
    rw [e]
    generalize allF N l [] = ms at h4 ⊢
    ((repeat' (first | (apply WL.opN; exact yF; dsimp only [setD, z0, z1]) | refine WL.nil ?_ | refine WC.seqK fun Kx hK => ?_ | (refine hK _ _ ?_; clear hK) | refine WC.region ?_ |  (refine WL.callC (hp := []) (hp1 := []) (caps := []) h4 Try.call58 OpD.f (ArgsD.cons (OpD.t rfl) (ArgsD.cons ⟨Dat.le_nil⟩ ArgsD.nil)) ?_; rintro d' hp2 ⟨rfl, rfl⟩; dsimp only [setD, z0, z1, List.cons_append, List.nil_append]) | (apply WL.opN; (focus ((first | (apply SY.call (h3) Try.call57; (exact aD)) | ((first | apply SY.move | apply SY.assign | apply SY.neq) <;> (exact oD)) | (apply SY.len; (exact oD); (exact nD); (exact uD)) | (apply SY.box; (exact oD); (exact hD)) | fail); all_goals infer_instance)); dsimp only [setD, z0, z1]) | (apply WC.condN; (exact oD); all_goals (intro h; try exact xD)) | refine WC.skip ?_ | refine WC.ret ?_)); all_goals (first | ((repeat clear hK); (repeat clear Kx))))
    all_goals try (exfalso; first | contradiction | omega)
    (refine ⟨trivial, ⟨_, rfl, ?_⟩, _, rfl, ?_⟩ <;> exact fD)
  · have e : cntR V l = (0, checkI V l) := by unfold cntR; rw [if_pos hc]
    rw [e]
    ((repeat' (first | (apply WL.opN; exact yF; dsimp only [setD, z0, z1]) | refine WL.nil ?_ | refine WC.seqK fun Kx hK => ?_ | (refine hK _ _ ?_; clear hK) | refine WC.region ?_ | (apply WL.opN; (focus ((first | (apply SY.call (h3) Try.call57; (exact aD)) | ((first | apply SY.move | apply SY.assign | apply SY.neq) <;> (exact oD)) | (apply SY.box; (exact oD); (exact hD)) | fail); all_goals infer_instance)); dsimp only [setD, z0, z1]) | (apply WC.condN; (exact oD); all_goals (intro h; try exact xD)) | refine WC.ret ?_ | refine ThenD.r ?_)); all_goals (first | ((repeat clear hK); (repeat clear Kx))))
    all_goals try (exfalso; first | contradiction | omega)
    (refine ⟨trivial, ⟨_, rfl, ?_⟩, _, rfl, ?_⟩ <;> exact fD)
theorem pmodels_p (V : Int) (l : List (List Int)) (most : Int) (hr : IRR l) (hV : V ≤ 10 ∨ checkI V l ≠ 0) : Fn Try.prog 22 [dS Cls (V, l), dI most] (dT [dS Rows (modR V l most).1, dI (modR V l most).2]) := by
  have h1 := check43_p V l hr
  by_cases hc : checkI V l = 0
  · have hv := hV.resolve_right fun h => h hc
    obtain ⟨N, rfl⟩ : ∃ N : Nat, V = (N : Int) := ⟨V.toNat, by have := (checkI_zero hc).1; omega⟩
    rw [hc] at h1
    by_cases hm : most < 0 ∨ 1024 < most
    · have e : modR (N : Int) l most = ([], 2) := by unfold modR; rw [if_neg (by rw [hc]; simp), if_pos hm]
      rw [e]
      (refine Fn.intro2 Try.func22 rfl rfl ?_; simp only [Try.ntmps22, List.length_cons, List.length_nil, Nat.reduceAdd, Nat.reduceSub, List.replicate_succ, List.replicate_zero, List.cons_append, List.nil_append])
      by_cases hm0 : most < 0
      · ((repeat' (first | (apply WL.opN; exact yF; dsimp only [setD, z0, z1]) | refine WL.nil ?_ | refine WC.seqK fun Kx hK => ?_ | (refine hK _ _ ?_; clear hK) | refine WC.region ?_ | (apply WL.opG; (focus (first | exact wN | (apply SYG.yes; (exact wY); ((first | (apply SY.call (h1) Try.call38; (exact aD)) | ((first | apply SY.move | apply SY.assign | apply SY.lss | apply SY.gtr | apply SY.neq | apply SY.not) <;> (exact oD)) | (apply SY.pickT; (exact oD); (with_reducible rfl); (exact oD)) | (apply SY.box; (exact oD); (exact hD)) | fail); all_goals infer_instance)))); dsimp only [setD, z0, z1]) | ((first | refine WL.caseP rfl rfl rfl (fun h => ?_) (fun h => ?_) | refine WL.caseN rfl rfl rfl (fun h => ?_) (fun h => ?_) | refine WL.caseB rfl rfl rfl (fun h => ?_) (fun h => ?_)) <;> (first | (exfalso; first | omega | contradiction) | (dsimp only [z0, z1]))) | (apply WC.condT; (exact oD); (with_reducible rfl)) | (apply WC.condN; (exact oD); all_goals (intro h; try exact xD)) | refine WC.skip ?_ | refine WC.ret ?_ | refine WC.block ?_ | refine ThenD.r ?_ | refine InBlockD.r ?_)); all_goals (first | ((repeat clear hK); (repeat clear Kx))))
        all_goals try (exfalso; first | contradiction | omega)
        (refine ⟨trivial, ⟨_, rfl, ?_⟩, _, rfl, ?_⟩ <;> exact fD)
      · have hm1 : most > 1024 := by omega
        ((repeat' (first | (apply WL.opN; exact yF; dsimp only [setD, z0, z1]) | refine WL.nil ?_ | refine WC.seqK fun Kx hK => ?_ | (refine hK _ _ ?_; clear hK) | refine WC.region ?_ | (apply WL.opG; (focus (first | exact wN | (apply SYG.yes; (exact wY); ((first | (apply SY.call (h1) Try.call38; (exact aD)) | ((first | apply SY.move | apply SY.assign | apply SY.lss | apply SY.gtr | apply SY.neq | apply SY.not) <;> (exact oD)) | (apply SY.load; (exact tD); (exact oD)) | (apply SY.pickF; (exact oD); (with_reducible rfl); (exact oD)) | (apply SY.box; (exact oD); (exact hD)) | fail); all_goals infer_instance)))); dsimp only [setD, z0, z1]) | ((first | refine WL.caseP rfl rfl rfl (fun h => ?_) (fun h => ?_) | refine WL.caseN rfl rfl rfl (fun h => ?_) (fun h => ?_) | refine WL.caseB rfl rfl rfl (fun h => ?_) (fun h => ?_)) <;> (first | (exfalso; first | omega | contradiction) | (dsimp only [z0, z1]))) | (apply WC.condD; (exact oD); all_goals (intro h; try exact xD)) | (apply WC.condN; (exact oD); all_goals (intro h; try exact xD)) | refine WC.skip ?_ | refine WC.ret ?_ | refine WC.block ?_ | refine ThenD.r ?_ | refine InBlockD.r ?_)); all_goals (first | ((repeat clear hK); (repeat clear Kx))))
        all_goals try (exfalso; first | contradiction | omega)
        (refine ⟨trivial, ⟨_, rfl, ?_⟩, _, rfl, ?_⟩ <;> exact fD)
    · obtain ⟨M, rfl⟩ : ∃ M : Nat, most = (M : Int) := ⟨most.toNat, by omega⟩
      have e : modR (N : Int) l (M : Int) = (if (allF N l []).length ≤ M then allF N l [] else [], if (allF N l []).length ≤ M then 0 else 5) := by
        unfold modR
        rw [if_neg (by rw [hc]; simp), if_neg hm]
        show (if ((allF N l []).length : Int) ≤ (M : Int) then (allF N l [], (0 : Int)) else ([], 5)) = _
        by_cases hle : (allF N l []).length ≤ M
        · rw [if_pos (by omega), if_pos hle, if_pos hle]
        · rw [if_neg (by omega), if_neg hle, if_neg hle]
      rw [e]
      exact models43_p N l M (by omega) (by omega) hc
  · have e : modR V l most = ([], checkI V l) := by unfold modR; rw [if_pos hc]
    rw [e]
    (refine Fn.intro2 Try.func22 rfl rfl ?_; simp only [Try.ntmps22, List.length_cons, List.length_nil, Nat.reduceAdd, Nat.reduceSub, List.replicate_succ, List.replicate_zero, List.cons_append, List.nil_append])
    ((repeat' (first | (apply WL.opN; exact yF; dsimp only [setD, z0, z1]) | refine WL.nil ?_ | refine WC.seqK fun Kx hK => ?_ | (refine hK _ _ ?_; clear hK) | refine WC.region ?_ | (apply WL.opG; (focus (first | exact wN | (apply SYG.yes; (exact wY); ((first | (apply SY.call (h1) Try.call38; (exact aD)) | ((first | apply SY.move | apply SY.assign | apply SY.lss | apply SY.gtr | apply SY.neq | apply SY.not) <;> (exact oD)) | (apply SY.box; (exact oD); (exact hD)) | fail); all_goals infer_instance)))); dsimp only [setD, z0, z1]) | (apply WC.condN; (exact oD); all_goals (intro h; try exact xD)) | refine WC.ret ?_ | refine ThenD.r ?_)); all_goals (first | ((repeat clear hK); (repeat clear Kx))))
    all_goals try (exfalso; first | contradiction | omega)
    (refine ⟨trivial, ⟨_, rfl, ?_⟩, _, rfl, ?_⟩ <;> exact fD)
theorem pcount_p (V : Int) (l : List (List Int)) (hr : IRR l) (hV : V ≤ 10 ∨ checkI V l ≠ 0) : Fn Try.prog 15 [dS Cls (V, l)] (dT [dI (cntR V l).1, dI (cntR V l).2]) := by
  by_cases hc : checkI V l = 0
  · have hv := hV.resolve_right fun h => h hc
    obtain ⟨N, rfl⟩ : ∃ N : Nat, V = (N : Int) := ⟨V.toNat, by have := (checkI_zero hc).1; omega⟩
    have e : cntR (N : Int) l = (((allF N l []).length : Int), 0) := by unfold cntR; rw [if_neg (by rw [hc]; simp)]; rfl
    rw [e]
    exact count43_p N l (by omega) hc
  · have h1 := check43_p V l hr
    have e : cntR V l = (0, checkI V l) := by unfold cntR; rw [if_pos hc]
    rw [e]
    (refine Fn.intro2 Try.func15 rfl rfl ?_; simp only [Try.ntmps15, List.length_cons, List.length_nil, Nat.reduceAdd, Nat.reduceSub, List.replicate_succ, List.replicate_zero, List.cons_append, List.nil_append])
    ((repeat' (first | (apply WL.opN; exact yF; dsimp only [setD, z0, z1]) | refine WL.nil ?_ | refine WC.seqK fun Kx hK => ?_ | (refine hK _ _ ?_; clear hK) | refine WC.region ?_ | (apply WL.opN; (focus ((first | (apply SY.call (h1) Try.call38; (exact aD)) | ((first | apply SY.move | apply SY.assign | apply SY.gtr | apply SY.neq) <;> (exact oD)) | (apply SY.box; (exact oD); (exact hD)) | fail); all_goals infer_instance)); dsimp only [setD, z0, z1]) | (apply WC.condN; (exact oD); all_goals (intro h; try exact xD)) | refine WC.ret ?_ | refine ThenD.r ?_)); all_goals (first | ((repeat clear hK); (repeat clear Kx))))
    all_goals try (exfalso; first | contradiction | omega)
    (refine ⟨trivial, ⟨_, rfl, ?_⟩, _, rfl, ?_⟩ <;> exact fD)
end Go.Proofs.Ytpiidgcljlalmaa
namespace Go.Proofs.Ytpiidgcljlalmaa
open Go.RowKit
theorem sameAll_self (a : List (List Int)) : sameAllI a a = true := (sameAllI_iff _ _).2 rfl
theorem few43_bnd {V : Int} {l : List (List Int)} (h : few43B V l = true) : V ≤ 10 ∨ checkI V l ≠ 0 := by
  unfold few43B at h
  simp only [Bool.and_eq_true, Bool.or_eq_true, decide_eq_true_eq] at h
  exact h.2
set_option linter.unusedSimpArgs false
set_option linter.unusedVariables false
set_option maxHeartbeats 2000000
set_option maxRecDepth 100000
set_option maxHeartbeats 8000000 in
theorem lists_p (V : Int) (l : List (List Int)) (most : Int) (hr : IRR l) : Fn Try.prog 5 [dS Cls (V, l), dI most] (dB true) := by
  have haw := awake_p
  have hf := few43r_p V l
  cases hq : few43B V l with
  | false =>
    rw [hq] at hf
    (refine Fn.intro1 Try.func5 rfl rfl ?_; simp only [Try.ntmps5, List.length_cons, List.length_nil, Nat.reduceAdd, Nat.reduceSub, List.replicate_succ, List.replicate_zero, List.cons_append, List.nil_append])
    ((repeat' (first | (apply WL.opN; exact yF; dsimp only [setD, z0, z1]) | refine WL.nil ?_ | refine WC.seqK fun Kx hK => ?_ | (refine hK _ _ ?_; clear hK) | refine WC.region ?_ | (apply WL.opG; (focus (first | exact wN | (apply SYG.yes; (exact wY); ((first | (apply SY.call (hf) Try.call20; (exact aD)) | (apply SY.call (haw) Try.call21; (exact aD)) | ((first | apply SY.move | apply SY.assign | apply SY.eql | apply SY.not) <;> (exact oD)) | (apply SY.box; (exact oD); (exact hD)) | fail); all_goals infer_instance)))); dsimp only [setD, z0, z1]) | (apply WC.condNB; (exact oD); all_goals (intro h; try exact xD)) | refine WC.ret ?_ | refine ThenD.r ?_)); all_goals (first | ((repeat clear hK); (repeat clear Kx))))
    all_goals try (exfalso; first | contradiction | omega)
    (refine ⟨trivial, _, rfl, ?_⟩; exact fD)
  | true =>
    rw [hq] at hf
    have hV := few43_bnd hq
    have h1 := pmodels_p V l most hr hV
    have h2 := rmodels_p V l most hV
    have h3 := pcount_p V l hr hV
    have h4 := rcount_p V l hV
    generalize (modR V l most).1 = a at h1 h2
    generalize (modR V l most).2 = e at h1 h2
    generalize (cntR V l).1 = k at h3 h4
    generalize (cntR V l).2 = e' at h3 h4
    have h5 := sameAll43_p a a
    rw [sameAll_self] at h5
    (refine Fn.intro1 Try.func5 rfl rfl ?_; simp only [Try.ntmps5, List.length_cons, List.length_nil, Nat.reduceAdd, Nat.reduceSub, List.replicate_succ, List.replicate_zero, List.cons_append, List.nil_append])
    ((repeat' (first | (apply WL.opN; exact yF; dsimp only [setD, z0, z1]) | refine WL.nil ?_ | refine WC.seqK fun Kx hK => ?_ | (refine hK _ _ ?_; clear hK) | refine WC.region ?_ | (apply WL.opG; (focus (first | exact wN | (apply SYG.yes; (exact wY); ((first | (apply SY.call (hf) Try.call20; (exact aD)) | (apply SY.call (haw) Try.call21; (exact aD)) | (apply SY.call (h1) Try.call22; (exact aD)) | (apply SY.call (h2) Try.call23; (exact aD)) | (apply SY.call (h3) Try.call15; (exact aD)) | (apply SY.call (h4) Try.call24; (exact aD)) | (apply SY.call (h5) Try.call25; (exact aD)) | ((first | apply SY.move | apply SY.assign | apply SY.eql | apply SY.not) <;> (exact oD)) | (apply SY.pickT; (exact oD); (with_reducible rfl); (exact oD)) | (apply SY.extract; (exact oD); rfl) | (apply SY.box; (exact oD); (exact hD)) | fail); all_goals infer_instance)))); dsimp only [setD, z0, z1]) | ((first | refine WL.caseP rfl rfl rfl (fun h => ?_) (fun h => ?_) | refine WL.caseN rfl rfl rfl (fun h => ?_) (fun h => ?_) | refine WL.caseB rfl rfl rfl (fun h => ?_) (fun h => ?_)) <;> (first | (exfalso; first | omega | contradiction) | (dsimp only [z0, z1]))) | (apply WC.condNB; (exact oD); all_goals (intro h; try exact xD)) | refine WC.skip ?_ | refine WC.ret ?_)); all_goals (first | ((repeat clear hK); (repeat clear Kx))))
    all_goals try (exfalso; first | contradiction | omega)
    (refine ⟨trivial, _, rfl, ?_⟩; refine FinD.b ?_)
    exact decide_eq_true rfl
end Go.Proofs.Ytpiidgcljlalmaa
