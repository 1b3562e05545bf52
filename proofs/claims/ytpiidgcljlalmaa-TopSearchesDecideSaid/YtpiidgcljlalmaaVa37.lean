/- Part 37: walks by contracts, and plain laws. -/
import Derived.Test.YtpiidgcljlalmaaVa36
set_option linter.unusedVariables false
set_option linter.unusedSimpArgs false
set_option linter.unusedSectionVars false
namespace Go.Proofs.Ytpiidgcljlalmaa
open Go.RowKit
section
variable {P : Program}
def fin3 (t u x : Tmp) (r s q : Dat) : Post := fun e fr hp => (match e with | .normal | .ret => True | _ => False) ∧ (∃ d, fr[t]? = some d ∧ FinD hp d r) ∧ (∃ d, fr[u]? = some d ∧ FinD hp d s) ∧ ∃ d, fr[x]? = some d ∧ FinD hp d q
theorem results_tmp3' {fn : Func} {t u v : Tmp} (h : fn.results = #[.tmp t, .tmp u, .tmp v]) (tmps : Array Value) (w : World) : (results fn tmps).run P w = .ok (.tuple #[tmps.getD t undef, tmps.getD u undef, tmps.getD v undef]) w := by
  simp [results, h]
theorem Fn.intro3 {f : FuncId} {fn : Func} {c : Code} {args : List Dat} {r s q : Dat} {t u x : Tmp} (hf : P.funcs[f]? = some fn) (hb : fn.body = some c) (hr : fn.results = #[.tmp t, .tmp u, .tmp x])
    (h : WC P (fin3 t u x r s q) c (args ++ List.replicate (fn.ntmps - args.length) (dX undef)) []) : Fn P f args (dT [r, s, q]) :=
  Fn.intro hf hb (fun e fr hp h => by
    obtain ⟨he, ⟨d, hd, hfin⟩, ⟨d', hd', hfin'⟩, d2, hd2, hfin2⟩ := h
    refine ⟨by cases e <;> simp_all, fun {P0 B w0 w a} hh hf' => ⟨_, results_tmp3' hr _ _, dT3_rd (hfin.out hh (hf'.rd t d hd)) (hfin'.out hh (hf'.rd u d' hd')) (hfin2.out hh (hf'.rd x d2 hd2))⟩⟩) h
end
set_option linter.unusedSimpArgs false
set_option linter.unusedVariables false
set_option maxHeartbeats 2000000
set_option maxRecDepth 100000
set_option maxHeartbeats 4000000 in
theorem evalBad_p (V : Nat) (l : List (List Int)) (m : List Int) (hV : V ≤ 4096) (hr : IRR l) (hck : checkI (V : Int) l = 0) (hM : ¬ IsM V m) : ∃ e : Int, e ≠ 0 ∧ Fn Try.prog 14 [dS Cls ((V : Int), l), dS Ints m] (dT [dI 0, dB false, dI e]) := by
  have h1 := check43_p (V : Int) l hr
  rw [hck] at h1
  by_cases hl : m.length = V
  · refine ⟨3, by decide, ?_⟩
    have hlI : ¬ (m.length : Int) ≠ (V : Int) := by omega
    (refine Fn.intro3 Try.func14 rfl rfl ?_; simp only [Try.ntmps14, List.length_cons, List.length_nil, Nat.reduceAdd, Nat.reduceSub, List.replicate_succ, List.replicate_zero, List.cons_append, List.nil_append])
    (repeat' (first | (apply WL.opN; exact yF; dsimp only [setD, z0, z1]) | refine WL.nil ?_ | refine WC.seqK fun Kx hK => ?_ | (refine hK _ _ ?_; clear hK) | refine WC.region ?_ | (apply WL.opG; (focus (first | exact wN | (apply SYG.yes; (exact wY); ((first | (apply SY.call (h1) Try.call38; (exact aD)) | ((first | apply SY.move | apply SY.assign | apply SY.lss | apply SY.neq) <;> (exact oD)) | (apply SY.len; (exact oD); (exact nD); (exact uD)) | (apply SY.fldP0 clT; exact OpD.t rfl) | (apply SY.fldP1 clT; exact OpD.t rfl) | (apply SY.box; (exact oD); (exact hD)) | fail); all_goals infer_instance)))); dsimp only [setD, z0, z1]) | (apply WC.condN; (exact oD); all_goals (intro h; try exact xD)) | refine WC.skip ?_ | refine WC.block ?_))
    all_goals try (exfalso; first | contradiction | omega)
    (refine WC.loopU (X := Nat) (fun k => [(23, dI (k : Int)), (4, dA), (5, dA), (6, dA), (8, dA), (9, dA), (24, dA), (25, dA), (26, dA), (27, dA), (28, dA), (29, dA), (30, dA), (31, dA), (32, dA), (33, dA), (34, dA), (35, dA), (36, dA), (37, dA), (38, dA), (39, dA)]) (fun k => []) (fun k => m.length - k) (fun k => k ≤ m.length ∧ ∀ j (hj : j < k) (h1 : j < m.length), m[j] = (j : Int) + 1 ∨ m[j] = -((j : Int) + 1)) 0 ?start ?frame0 ?objs0 ?round)
    case start => exact ⟨Nat.zero_le _, fun j hj => absurd hj (Nat.not_lt_zero j)⟩
    case frame0 => ((try dsimp only [upds, z0, z1]); repeat (first | exact LeF.nil | refine LeF.co (k := ?_)))
    case objs0 => rfl
    case round =>
      rintro k ⟨h1, h2⟩
      dsimp only [upds, z0, z1]
      by_cases hk : k < m.length
      · have hlt : (k : Int) < (m.length : Int) := by omega
        obtain ⟨x, hx⟩ : ∃ x, m[k] = x := ⟨_, rfl⟩
        have hx2 : ∀ y, x = y → m[k] = y := fun y e => hx.trans e
        by_cases ha : x = (k : Int) + 1
        · have haI : ¬ x ≠ (k : Int) + 1 := fun h => h ha
          ((repeat' (first | (apply WL.opN; exact yF; dsimp only [setD, z0, z1]) | refine WL.nil ?_ | refine WC.seqK fun Kx hK => ?_ | (refine hK _ _ ?_; clear hK) | refine WC.region ?_ | (apply WL.opG; (focus (first | exact wN | (apply SYG.yes; (exact wY); ((first | (refine SY.ixE1 (R := RI) (_gR := inferInstance) elI hk hx (OpD.t rfl) (OpD.t rfl)) | ((first | apply SY.move | apply SY.assign | apply SY.lss | apply SY.neq) <;> (exact oD)) | ((first | apply SY.add | apply SY.sub) <;> first | exact oD | omega) | (apply SY.pickF; (exact oD); (with_reducible rfl); (exact oD)) | fail); all_goals infer_instance)))); dsimp only [setD, z0, z1]) | ((first | refine WL.caseP rfl rfl rfl (fun h => ?_) (fun h => ?_) | refine WL.caseN rfl rfl rfl (fun h => ?_) (fun h => ?_) | refine WL.caseB rfl rfl rfl (fun h => ?_) (fun h => ?_)) <;> (first | (exfalso; first | omega | contradiction) | (dsimp only [z0, z1]))) | (apply WC.condF; (exact oD); (with_reducible rfl)) | (apply WC.condD; (exact oD); all_goals (intro h; try exact xD)) | refine WC.skip ?_ | refine WC.block ?_ | refine ThenD.n ?_)); all_goals (first | ((repeat clear hK); (repeat clear Kx))))
          all_goals try (exfalso; first | contradiction | omega)
          (refine ⟨k + 1, ?_, by first | omega | (simp only; omega), rfl, ?_⟩; rotate_left; ((try dsimp only [upds, z0, z1]); repeat (first | exact LeF.nil | refine LeF.co (k := ?_))); (try dsimp only))
          refine ⟨by omega, fun j hj h3 => ?_⟩
          rcases (by omega : j < k ∨ j = k) with h5 | rfl
          · exact h2 j h5 h3
          · exact .inl (hx2 _ ha)
        · by_cases hb : x = -(k : Int) - 1
          · have hbI : ¬ x ≠ -(k : Int) - 1 := fun h => h hb
            ((repeat' (first | (apply WL.opN; exact yF; dsimp only [setD, z0, z1]) | refine WL.nil ?_ | refine WC.seqK fun Kx hK => ?_ | (refine hK _ _ ?_; clear hK) | refine WC.region ?_ | (apply WL.opG; (focus (first | exact wN | (apply SYG.yes; (exact wY); ((first | (refine SY.ixE1 (R := RI) (_gR := inferInstance) elI hk hx (OpD.t rfl) (OpD.t rfl)) | (exact SY.neg (OpD.t rfl) (by omega)) | ((first | apply SY.move | apply SY.assign | apply SY.lss | apply SY.neq) <;> (exact oD)) | ((first | apply SY.add | apply SY.sub) <;> first | exact oD | omega) | (apply SY.pickT; (exact oD); (with_reducible rfl); (exact oD)) | fail); all_goals infer_instance)))); dsimp only [setD, z0, z1]) | ((first | refine WL.caseP rfl rfl rfl (fun h => ?_) (fun h => ?_) | refine WL.caseN rfl rfl rfl (fun h => ?_) (fun h => ?_) | refine WL.caseB rfl rfl rfl (fun h => ?_) (fun h => ?_)) <;> (first | (exfalso; first | omega | contradiction) | (dsimp only [z0, z1]))) | (apply WC.condD; (exact oD); all_goals (intro h; try exact xD)) | (apply WC.condN; (exact oD); all_goals (intro h; try exact xD)) | refine WC.skip ?_ | refine WC.block ?_ | refine ThenD.n ?_)); all_goals (first | ((repeat clear hK); (repeat clear Kx))))
            all_goals try (exfalso; first | contradiction | omega)
            (refine ⟨k + 1, ?_, by first | omega | (simp only; omega), rfl, ?_⟩; rotate_left; ((try dsimp only [upds, z0, z1]); repeat (first | exact LeF.nil | refine LeF.co (k := ?_))); (try dsimp only))
            refine ⟨by omega, fun j hj h3 => ?_⟩
            rcases (by omega : j < k ∨ j = k) with h5 | rfl
            · exact h2 j h5 h3
            · exact .inr (by rw [hx2 _ hb]; omega)
          · ((repeat' (first | (apply WL.opN; exact yF; dsimp only [setD, z0, z1]) | refine WL.nil ?_ | refine WC.seqK fun Kx hK => ?_ | (refine hK _ _ ?_; clear hK) | refine WC.region ?_ | (apply WL.opG; (focus (first | exact wN | (apply SYG.yes; (exact wY); ((first | (refine SY.ixE1 (R := RI) (_gR := inferInstance) elI hk hx (OpD.t rfl) (OpD.t rfl)) | (exact SY.neg (OpD.t rfl) (by omega)) | ((first | apply SY.move | apply SY.assign | apply SY.lss | apply SY.neq) <;> (exact oD)) | ((first | apply SY.add | apply SY.sub) <;> first | exact oD | omega) | (apply SY.pickT; (exact oD); (with_reducible rfl); (exact oD)) | fail); all_goals infer_instance)))); dsimp only [setD, z0, z1]) | ((first | refine WL.caseP rfl rfl rfl (fun h => ?_) (fun h => ?_) | refine WL.caseN rfl rfl rfl (fun h => ?_) (fun h => ?_) | refine WL.caseB rfl rfl rfl (fun h => ?_) (fun h => ?_)) <;> (first | (exfalso; first | omega | contradiction) | (dsimp only [z0, z1]))) | (apply WC.condD; (exact oD); all_goals (intro h; try exact xD)) | (apply WC.condN; (exact oD); all_goals (intro h; try exact xD)) | refine WC.skip ?_ | refine WC.ret ?_ | refine WC.block ?_ | refine ThenD.r ?_ | refine InBlockD.r ?_)); all_goals (first | ((repeat clear hK); (repeat clear Kx))))
            all_goals try (exfalso; first | contradiction | omega)
            (refine ⟨trivial, ⟨_, rfl, ?_⟩, ⟨_, rfl, ?_⟩, _, rfl, ?_⟩ <;> exact fD)
      · exact absurd ⟨hl, fun j hj => h2 j (by omega) hj⟩ hM
  · refine ⟨15, by decide, ?_⟩
    have hlI : (m.length : Int) ≠ (V : Int) := by omega
    (refine Fn.intro3 Try.func14 rfl rfl ?_; simp only [Try.ntmps14, List.length_cons, List.length_nil, Nat.reduceAdd, Nat.reduceSub, List.replicate_succ, List.replicate_zero, List.cons_append, List.nil_append])
    ((repeat' (first | (apply WL.opN; exact yF; dsimp only [setD, z0, z1]) | refine WL.nil ?_ | refine WC.seqK fun Kx hK => ?_ | (refine hK _ _ ?_; clear hK) | refine WC.region ?_ | (apply WL.opG; (focus (first | exact wN | (apply SYG.yes; (exact wY); ((first | (apply SY.call (h1) Try.call38; (exact aD)) | ((first | apply SY.move | apply SY.assign | apply SY.lss | apply SY.neq) <;> (exact oD)) | (apply SY.len; (exact oD); (exact nD); (exact uD)) | (apply SY.fldP0 clT; exact OpD.t rfl) | (apply SY.fldP1 clT; exact OpD.t rfl) | (apply SY.box; (exact oD); (exact hD)) | fail); all_goals infer_instance)))); dsimp only [setD, z0, z1]) | (apply WC.condN; (exact oD); all_goals (intro h; try exact xD)) | refine WC.skip ?_ | refine WC.ret ?_ | refine ThenD.r ?_)); all_goals (first | ((repeat clear hK); (repeat clear Kx))))
    all_goals try (exfalso; first | contradiction | omega)
    (refine ⟨trivial, ⟨_, rfl, ?_⟩, ⟨_, rfl, ?_⟩, _, rfl, ?_⟩ <;> exact fD)
theorem dT3_le {a b c a' b' c' : Dat} (h0 : a.le a') (h1 : b.le b') (h2 : c.le c') : (dT [a, b, c]).le (dT [a', b', c']) := fun I w v h => by
  obtain ⟨vs, rfl, hl, h⟩ := h
  match vs, hl with
  | [u0, u1, u2], _ => exact dT3_rd (h0 _ _ _ (h 0 _ u0 rfl rfl)) (h1 _ _ _ (h 1 _ u1 rfl rfl)) (h2 _ _ _ (h 2 _ u2 rfl rfl))
theorem evalAny_p (V : Nat) (l : List (List Int)) (m : List Int) (hV : V ≤ 4096) (hr : IRR l) (hck : checkI (V : Int) l = 0) : ∃ (is : Bool) (e : Int), Fn Try.prog 14 [dS Cls ((V : Int), l), dS Ints m] (dT [dA, dB is, dI e]) ∧ (e = 0 → is = true → IsM V m ∧ allT l m = true) := by
  by_cases hM : IsM V m
  · exact ⟨_, _, eval43_p V l m hr hck hM, fun _ h => ⟨hM, h⟩⟩
  · obtain ⟨e, he, h⟩ := evalBad_p V l m hV hr hck hM
    exact ⟨false, e, h.mono (dT3_le (Dat.le_any _) (Dat.le_refl _) (Dat.le_refl _)), fun h0 => absurd h0 he⟩
theorem isM_pos {V : Nat} {m : List Int} (h : IsM V m) : PosL m := fun i x e => by
  obtain ⟨hi, rfl⟩ := List.getElem?_eq_some_iff.1 e
  have := h.at' i hi
  omega
theorem pos_isM {V : Nat} {m : List Int} (hl : m.length = V) (h : PosL m) : IsM V m := ⟨hl, fun k hk => by
  have := h k m[k] (List.getElem?_eq_getElem hk)
  omega⟩
theorem refut_none {V : Nat} (hV : V ≤ 4096) {l p : List (List Int)} (h : Refut V l p) : allF V l [] = [] := by
  cases hm : allF V l [] with
  | nil => rfl
  | cons m t =>
    obtain ⟨h1, h2, h3⟩ := model_mem.1 (show m ∈ allF V l [] by rw [hm]; simp)
    exact absurd h3 (refut_holds hV h (pos_modl h1 h2))
theorem isM_model {V : Nat} {l : List (List Int)} {m : List Int} (h : IsM V m) (ht : allT l m = true) : m ∈ allF V l [] := model_mem.2 ⟨h.len, isM_pos h, fun c hc => List.all_eq_true.1 ht c hc⟩
theorem model_isM {V : Nat} {l : List (List Int)} {m : List Int} (h : m ∈ allF V l []) : IsM V m ∧ allT l m = true := by
  obtain ⟨h1, h2, h3⟩ := model_mem.1 h
  exact ⟨pos_isM h1 h2, List.all_eq_true.2 h3⟩
set_option maxHeartbeats 16000000 in
theorem exclude_p (V : Int) (l p : List (List Int)) (m : List Int) (hr : IRR l) : Fn Try.prog 3 [dS Cls (V, l), dS Rows p, dS Ints m] (dB true) := by
  have hts := trySolved_p
  have htc := tryClauses_p V l
  have hfp := few42_p p
  by_cases hq : (fewB V l && (decide (checkI V l = 0) && decide (V ≤ 8))) = true
  · rw [hq] at htc
    simp only [Bool.and_eq_true, decide_eq_true_eq] at hq
    obtain ⟨_, hck, hV8⟩ := hq
    obtain ⟨N, rfl⟩ : ∃ N : Nat, V = (N : Int) := ⟨V.toNat, by have := (checkI_zero hck).1; omega⟩
    by_cases hf : few2B p = true
    · rw [hf] at hfp
      have hv := verify43_p (N : Int) l p hr
      obtain ⟨is, e, he, hm⟩ := evalAny_p N l m (by omega) hr hck
      by_cases hml : (m.length : Int) > 20
      · (refine Fn.intro1 Try.func3 rfl rfl ?_; simp only [Try.ntmps3, List.length_cons, List.length_nil, Nat.reduceAdd, Nat.reduceSub, List.replicate_succ, List.replicate_zero, List.cons_append, List.nil_append])
        ((repeat' (first | (apply WL.opN; exact yF; dsimp only [setD, z0, z1]) | refine WL.nil ?_ | refine WC.seqK fun Kx hK => ?_ | (refine hK _ _ ?_; clear hK) | refine WC.region ?_ | (apply WL.opG; (focus (first | exact wN | (apply SYG.yes; (exact wY); ((first | (apply SY.call (hts) Try.call10; (exact aD)) | (apply SY.call (htc) Try.call11; (exact aD)) | (apply SY.call (hfp) Try.call12; (exact aD)) | ((first | apply SY.move | apply SY.assign | apply SY.gtr | apply SY.eql | apply SY.neq | apply SY.not) <;> (exact oD)) | (apply SY.len; (exact oD); (exact nD); (exact uD)) | (apply SY.pickF; (exact oD); (with_reducible rfl); (exact oD)) | (apply SY.box; (exact oD); (exact hD)) | fail); all_goals infer_instance)))); dsimp only [setD, z0, z1]) | ((first | refine WL.caseP rfl rfl rfl (fun h => ?_) (fun h => ?_) | refine WL.caseN rfl rfl rfl (fun h => ?_) (fun h => ?_) | refine WL.caseB rfl rfl rfl (fun h => ?_) (fun h => ?_)) <;> (first | (exfalso; first | omega | contradiction) | (dsimp only [z0, z1]))) | (apply WC.condD; (exact oD); all_goals (intro h; try exact xD)) | (apply WC.condNB; (exact oD); all_goals (intro h; try exact xD)) | refine WC.skip ?_ | refine WC.ret ?_ | refine ThenD.r ?_)); all_goals (first | ((repeat clear hK); (repeat clear Kx))))
        all_goals try (exfalso; first | contradiction | omega)
        (refine ⟨trivial, _, rfl, ?_⟩; exact fD)
      by_cases hz : (verifyI (N : Int) l p).2 = 0
      · have hR := verify_refut (by omega) hz
        have hno := refut_none (by omega) hR
        have hcn := count43_p N l (by omega) hck
        rw [hno] at hcn
        have hs := solve_c N l (by omega) hck
        have hnot : ¬ (e = 0 ∧ is = true) := fun ⟨q1, q2⟩ => by
          obtain ⟨q3, q4⟩ := hm q1 q2
          have := isM_model q3 q4
          rw [hno] at this; cases this
        rw [hz] at hv
        generalize (verifyI (N : Int) l p).1 = z at hv
        (refine Fn.intro1 Try.func3 rfl rfl ?_; simp only [Try.ntmps3, List.length_cons, List.length_nil, Nat.reduceAdd, Nat.reduceSub, List.replicate_succ, List.replicate_zero, List.cons_append, List.nil_append])
        (repeat' (first |  (refine WC.only 11 (Halt.go ?_)) | (apply WL.opN; exact yF; dsimp only [setD, z0, z1]) | refine WL.nil ?_ | refine WC.seqK fun Kx hK => ?_ | (refine hK _ _ ?_; clear hK) | refine WC.region ?_ |  (refine WL.callC (hp1 := []) (caps := []) hs Try.call16 OpD.f (ArgsD.cons (OpD.t rfl) ArgsD.nil) ?_; rintro d' hp2 ⟨rfl, e2, e3, e4, e5, rfl, v, mm, pp, rfl, rfl, rfl, rfl, hR2⟩; dsimp only [setD, z0, z1, List.nil_append]) | (apply WL.opG; (focus (first | exact wN | (apply SYG.yes; (exact wY); ((first | (apply SY.call (hts) Try.call10; (exact aD)) | (apply SY.call (htc) Try.call11; (exact aD)) | (apply SY.call (hfp) Try.call12; (exact aD)) | (apply SY.call (hv) Try.call13; (exact aD)) | (apply SY.call (he) Try.call14; (exact aD)) | (apply SY.call (hcn) Try.call15; (exact aD)) | ((first | apply SY.move | apply SY.assign | apply SY.gtr | apply SY.eql | apply SY.neq | apply SY.not) <;> (exact oD)) | (apply SY.len; (exact oD); (exact nD); (exact uD)) | (apply SY.pickF; (exact oD); (with_reducible rfl); (exact oD)) | (apply SY.extract; (exact oD); rfl) | (apply SY.box; (exact oD); (exact hD)) | fail); all_goals infer_instance)))); dsimp only [setD, z0, z1]) | ((first | refine WL.caseP rfl rfl rfl (fun h => ?_) (fun h => ?_) | refine WL.caseN rfl rfl rfl (fun h => ?_) (fun h => ?_) | refine WL.caseB rfl rfl rfl (fun h => ?_) (fun h => ?_)) <;> (first | (exfalso; first | omega | contradiction) | (dsimp only [z0, z1]))) | (apply WC.condD; (exact oD); all_goals (intro h; try exact xD)) | (apply WC.condN; (exact oD); all_goals (intro h; try exact xD)) | (apply WC.condNB; (exact oD); all_goals (intro h; try exact xD)) | refine WC.skip ?_))
        all_goals try (exfalso; first | contradiction | omega)
        refine ⟨?_⟩
        have hvm : v = 2 ∧ mm = [] := by
          rcases hR2.is with ⟨_, _, q⟩ | ⟨q1, q2, _⟩
          · rw [hno] at q; cases q
          · exact ⟨q1, q2⟩
        obtain ⟨rfl, rfl⟩ := hvm
        by_cases he0 : e = 0
        · cases is with
          | true => exact absurd ⟨he0, rfl⟩ hnot
          | false =>
            ((repeat' (first | (apply WL.opN; exact yF; dsimp only [setD, z0, z1]) | refine WL.nil ?_ | (refine hK _ _ ?_; clear hK) | refine WC.region ?_ | (apply WL.opG; (focus (first | exact wN | (apply SYG.yes; (exact wY); ((first | ((first | apply SY.move | apply SY.assign | apply SY.gtr | apply SY.eql | apply SY.neq | apply SY.not) <;> (exact oD)) | ((first | apply SY.add) <;> first | exact oD | omega) | (apply SY.len; (exact oD); (exact nD); (exact uD)) | (apply SY.pickT; (exact oD); (with_reducible rfl); (exact oD)) | fail); all_goals infer_instance)))); dsimp only [setD, z0, z1]) | ((first | refine WL.caseP rfl rfl rfl (fun h => ?_) (fun h => ?_) | refine WL.caseN rfl rfl rfl (fun h => ?_) (fun h => ?_) | refine WL.caseB rfl rfl rfl (fun h => ?_) (fun h => ?_)) <;> (first | (exfalso; first | omega | contradiction) | (dsimp only [z0, z1]))) | refine WC.ret ?_)); all_goals (first | ((repeat clear hK); (repeat clear Kx))))
            all_goals try (exfalso; first | contradiction | omega)
            (refine ⟨trivial, _, rfl, ?_⟩; exact fD)
        · ((repeat' (first | (apply WL.opN; exact yF; dsimp only [setD, z0, z1]) | refine WL.nil ?_ | (refine hK _ _ ?_; clear hK) | refine WC.region ?_ | (apply WL.opG; (focus (first | exact wN | (apply SYG.yes; (exact wY); ((first | ((first | apply SY.move | apply SY.assign | apply SY.gtr | apply SY.eql | apply SY.neq | apply SY.not) <;> (exact oD)) | ((first | apply SY.add) <;> first | exact oD | omega) | (apply SY.len; (exact oD); (exact nD); (exact uD)) | (apply SY.pickT; (exact oD); (with_reducible rfl); (exact oD)) | (apply SY.pickF; (exact oD); (with_reducible rfl); (exact oD)) | fail); all_goals infer_instance)))); dsimp only [setD, z0, z1]) | ((first | refine WL.caseP rfl rfl rfl (fun h => ?_) (fun h => ?_) | refine WL.caseN rfl rfl rfl (fun h => ?_) (fun h => ?_) | refine WL.caseB rfl rfl rfl (fun h => ?_) (fun h => ?_)) <;> (first | (exfalso; first | omega | contradiction) | (dsimp only [z0, z1]))) | refine WC.ret ?_)); all_goals (first | ((repeat clear hK); (repeat clear Kx))))
          all_goals try (exfalso; first | contradiction | omega)
          (refine ⟨trivial, _, rfl, ?_⟩; exact fD)
      · (refine Fn.intro1 Try.func3 rfl rfl ?_; simp only [Try.ntmps3, List.length_cons, List.length_nil, Nat.reduceAdd, Nat.reduceSub, List.replicate_succ, List.replicate_zero, List.cons_append, List.nil_append])
        generalize (verifyI (N : Int) l p).1 = z at hv
        generalize (verifyI (N : Int) l p).2 = z2 at hv hz
        ((repeat' (first | (apply WL.opN; exact yF; dsimp only [setD, z0, z1]) | refine WL.nil ?_ | refine WC.seqK fun Kx hK => ?_ | (refine hK _ _ ?_; clear hK) | refine WC.region ?_ | (apply WL.opG; (focus (first | exact wN | (apply SYG.yes; (exact wY); ((first | (apply SY.call (hts) Try.call10; (exact aD)) | (apply SY.call (htc) Try.call11; (exact aD)) | (apply SY.call (hfp) Try.call12; (exact aD)) | (apply SY.call (hv) Try.call13; (exact aD)) | (apply SY.call (he) Try.call14; (exact aD)) | ((first | apply SY.move | apply SY.assign | apply SY.gtr | apply SY.eql | apply SY.neq | apply SY.not) <;> (exact oD)) | (apply SY.len; (exact oD); (exact nD); (exact uD)) | (apply SY.pickF; (exact oD); (with_reducible rfl); (exact oD)) | (apply SY.extract; (exact oD); rfl) | (apply SY.box; (exact oD); (exact hD)) | fail); all_goals infer_instance)))); dsimp only [setD, z0, z1]) | ((first | refine WL.caseP rfl rfl rfl (fun h => ?_) (fun h => ?_) | refine WL.caseN rfl rfl rfl (fun h => ?_) (fun h => ?_) | refine WL.caseB rfl rfl rfl (fun h => ?_) (fun h => ?_)) <;> (first | (exfalso; first | omega | contradiction) | (dsimp only [z0, z1]))) | (apply WC.condD; (exact oD); all_goals (intro h; try exact xD)) | (apply WC.condN; (exact oD); all_goals (intro h; try exact xD)) | (apply WC.condNB; (exact oD); all_goals (intro h; try exact xD)) | refine WC.skip ?_ | refine WC.ret ?_ | refine ThenD.r ?_)); all_goals (first | ((repeat clear hK); (repeat clear Kx))))
        all_goals try (exfalso; first | contradiction | omega)
        (refine ⟨trivial, _, rfl, ?_⟩; exact fD)
    · have hf' : few2B p = false := by simpa using hf
      rw [hf'] at hfp
      (refine Fn.intro1 Try.func3 rfl rfl ?_; simp only [Try.ntmps3, List.length_cons, List.length_nil, Nat.reduceAdd, Nat.reduceSub, List.replicate_succ, List.replicate_zero, List.cons_append, List.nil_append])
      ((repeat' (first | (apply WL.opN; exact yF; dsimp only [setD, z0, z1]) | refine WL.nil ?_ | refine WC.seqK fun Kx hK => ?_ | (refine hK _ _ ?_; clear hK) | refine WC.region ?_ | (apply WL.opG; (focus (first | exact wN | (apply SYG.yes; (exact wY); ((first | (apply SY.call (hts) Try.call10; (exact aD)) | (apply SY.call (htc) Try.call11; (exact aD)) | (apply SY.call (hfp) Try.call12; (exact aD)) | ((first | apply SY.move | apply SY.assign | apply SY.gtr | apply SY.eql | apply SY.neq | apply SY.not) <;> (exact oD)) | (apply SY.pickT; (exact oD); (with_reducible rfl); (exact oD)) | (apply SY.pickF; (exact oD); (with_reducible rfl); (exact oD)) | (apply SY.box; (exact oD); (exact hD)) | fail); all_goals infer_instance)))); dsimp only [setD, z0, z1]) | ((first | refine WL.caseP rfl rfl rfl (fun h => ?_) (fun h => ?_) | refine WL.caseN rfl rfl rfl (fun h => ?_) (fun h => ?_) | refine WL.caseB rfl rfl rfl (fun h => ?_) (fun h => ?_)) <;> (first | (exfalso; first | omega | contradiction) | (dsimp only [z0, z1]))) | (apply WC.condT; (exact oD); (with_reducible rfl)) | (apply WC.condNB; (exact oD); all_goals (intro h; try exact xD)) | refine WC.skip ?_ | refine WC.ret ?_ | refine ThenD.r ?_)); all_goals (first | ((repeat clear hK); (repeat clear Kx))))
      all_goals try (exfalso; first | contradiction | omega)
      (refine ⟨trivial, _, rfl, ?_⟩; exact fD)
  · have hq' : (fewB V l && (decide (checkI V l = 0) && decide (V ≤ 8))) = false := by simpa using hq
    rw [hq'] at htc
    (refine Fn.intro1 Try.func3 rfl rfl ?_; simp only [Try.ntmps3, List.length_cons, List.length_nil, Nat.reduceAdd, Nat.reduceSub, List.replicate_succ, List.replicate_zero, List.cons_append, List.nil_append])
    ((repeat' (first | (apply WL.opN; exact yF; dsimp only [setD, z0, z1]) | refine WL.nil ?_ | refine WC.seqK fun Kx hK => ?_ | (refine hK _ _ ?_; clear hK) | refine WC.region ?_ | (apply WL.opG; (focus (first | exact wN | (apply SYG.yes; (exact wY); ((first | (apply SY.call (hts) Try.call10; (exact aD)) | (apply SY.call (htc) Try.call11; (exact aD)) | ((first | apply SY.move | apply SY.assign | apply SY.gtr | apply SY.eql | apply SY.neq | apply SY.not) <;> (exact oD)) | (apply SY.pickT; (exact oD); (with_reducible rfl); (exact oD)) | (apply SY.box; (exact oD); (exact hD)) | fail); all_goals infer_instance)))); dsimp only [setD, z0, z1]) | ((first | refine WL.caseP rfl rfl rfl (fun h => ?_) (fun h => ?_) | refine WL.caseN rfl rfl rfl (fun h => ?_) (fun h => ?_) | refine WL.caseB rfl rfl rfl (fun h => ?_) (fun h => ?_)) <;> (first | (exfalso; first | omega | contradiction) | (dsimp only [z0, z1]))) | (apply WC.condT; (exact oD); (with_reducible rfl)) | (apply WC.condNB; (exact oD); all_goals (intro h; try exact xD)) | refine WC.skip ?_ | refine WC.ret ?_ | refine ThenD.r ?_)); all_goals (first | ((repeat clear hK); (repeat clear Kx))))
    all_goals try (exfalso; first | contradiction | omega)
    (refine ⟨trivial, _, rfl, ?_⟩; exact fD)
end Go.Proofs.Ytpiidgcljlalmaa
