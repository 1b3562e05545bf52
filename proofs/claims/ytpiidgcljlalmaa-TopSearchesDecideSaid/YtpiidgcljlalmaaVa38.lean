/- Part 38: walks by contracts, and plain laws. -/
import Derived.Deep.Matrix
import Derived.Lib.SmallJoins
import Derived.Test.YtpiidgcljlalmaaRows
import Derived.Test.YtpiidgcljlalmaaVa37
set_option linter.unusedVariables false
set_option linter.unusedSimpArgs false
set_option linter.unusedSectionVars false
namespace Go.Proofs.Ytpiidgcljlalmaa
open Go.RowKit
theorem chosen_take {l : List (List Int)} {ks : List Int} {i : Nat} (h : i < ks.length) : chosenI l (ks.take (i + 1)) = chosenI l (ks.take i) ++ [l.getD (ks[i]).toNat []] := by
  unfold chosenI
  rw [List.take_succ_eq_append_getElem h, List.map_append]; rfl
theorem empty_no {V : Nat} (hV : V ≤ 4096) {l : List (List Int)} {m : List Int} (hck : checkI (V : Int) l = 0) (hm : m ∈ allF V l []) : emptyI (V : Int) l = (false, 0) := by
  obtain ⟨h1, h2, h3⟩ := model_mem.1 hm
  have hw : WfL V l := (clausesI_iff hV).1 (checkI_zero hck).2.2.2
  unfold emptyI
  rw [if_neg (by simp [hck])]
  cases hf : followsI l [] with
  | false => rfl
  | true =>
    have := follows_holds hV hw (c := []) ⟨(fun x hx => by cases hx), List.Pairwise.nil⟩ (pos_modl h1 h2) h3 hf
    cases this
set_option linter.unusedSimpArgs false
set_option linter.unusedVariables false
set_option maxHeartbeats 2000000
set_option maxRecDepth 100000
set_option maxHeartbeats 16000000 in
theorem decide_p (V : Int) (l : List (List Int)) (hr : IRR l) : Fn Try.prog 4 [dS Cls (V, l)] (dB true) := by
  have hts := trySolved_p
  have htc := tryClauses_p V l
  by_cases hq : (fewB V l && (decide (checkI V l = 0) && decide (V ≤ 8))) = true
  · rw [hq] at htc
    simp only [Bool.and_eq_true, decide_eq_true_eq] at hq
    obtain ⟨_, hck, hV8⟩ := hq
    obtain ⟨N, rfl⟩ : ∃ N : Nat, V = (N : Int) := ⟨V.toNat, by have := (checkI_zero hck).1; omega⟩
    have hs := solve_c N l (by omega) hck
    (refine Fn.intro1 Try.func4 rfl rfl ?_; simp only [Try.ntmps4, List.length_cons, List.length_nil, Nat.reduceAdd, Nat.reduceSub, List.replicate_succ, List.replicate_zero, List.cons_append, List.nil_append])
    (repeat' (first |  (refine WC.only 6 (Halt.go ?_)) | ((first | apply WL.opN | apply WD.opN); exact yF; dsimp only [setD, z0, z1]) | refine WL.nil ?_ | refine WC.seqK fun Kx hK => ?_ | (refine hK _ _ ?_; clear hK) | refine WC.region ?_ |  (refine WL.callC (hp1 := []) (caps := []) hs Try.call16 OpD.f (ArgsD.cons (OpD.t rfl) ArgsD.nil) ?_; rintro d' hp2 ⟨rfl, e2, e3, e4, e5, rfl, v, m, p, rfl, rfl, rfl, rfl, hR⟩; dsimp only [setD, z0, z1, List.nil_append]) | ((first | apply WL.opG | apply WD.op); (focus (first | exact wN | (apply SYG.yes; (exact wY); ((first | (apply SY.call (hts) Try.call10; (exact aD)) | (apply SY.call (htc) Try.call11; (exact aD)) | ((first | apply SY.move | apply SY.assign | apply SY.lss | apply SY.gtr | apply SY.geq | apply SY.eql | apply SY.neq | apply SY.not) <;> (exact oD)) | (apply SY.extract; (exact oD); rfl) | (apply SY.box; (exact oD); (exact hD)) | fail); all_goals infer_instance)))); dsimp only [setD, z0, z1]) | (apply WC.condNB; (exact oD); all_goals (intro h; try exact xD)) | refine WC.skip ?_))
    all_goals try (exfalso; first | contradiction | omega)
    refine ⟨?_⟩
    rcases hR.is with ⟨rfl, rfl, hm⟩ | ⟨rfl, rfl, hp0, hu, hRf, hpl⟩
    · obtain ⟨hM, hT⟩ := model_isM hm
      have he := eval43_p N l m hr hck hM
      rw [hT] at he
      have hem := empty43_p (N : Int) l hr
      rw [empty_no (by omega) hck hm] at hem
      ((repeat' (first | ((first | apply WL.opN | apply WD.opN); exact yF; dsimp only [setD, z0, z1]) | refine WL.nil ?_ | refine WC.seqK fun Kx hK => ?_ | (refine hK _ _ ?_; clear hK) | refine WC.region ?_ | ((first | apply WL.opG | apply WD.op); (focus (first | exact wN | (apply SYG.yes; (exact wY); ((first | (apply SY.call (he) Try.call14; (exact aD)) | (apply SY.call (hem) Try.call17; (exact aD)) | ((first | apply SY.move | apply SY.assign | apply SY.lss | apply SY.gtr | apply SY.geq | apply SY.eql | apply SY.neq | apply SY.not) <;> (exact oD)) | ((first | apply SY.add) <;> first | exact oD | omega) | (apply SY.len; (exact oD); (exact nD); (exact uD)) | (apply SY.pickT; (exact oD); (with_reducible rfl); (exact oD)) | (apply SY.extract; (exact oD); rfl) | fail); all_goals infer_instance)))); dsimp only [setD, z0, z1]) | ((first | refine WL.caseP rfl rfl rfl (fun h => ?_) (fun h => ?_) | refine WL.caseN rfl rfl rfl (fun h => ?_) (fun h => ?_) | refine WL.caseB rfl rfl rfl (fun h => ?_) (fun h => ?_) | refine WD.caseP rfl rfl rfl (fun h => ?_) (fun h => ?_) | refine WD.caseN rfl rfl rfl (fun h => ?_) (fun h => ?_) | refine WD.caseB rfl rfl rfl (fun h => ?_) (fun h => ?_)) <;> (first | (exfalso; first | omega | contradiction) | (dsimp only [z0, z1]))) | (apply WC.condD; (exact oD); all_goals (intro h; try exact xD)) | (apply WC.condN; (exact oD); all_goals (intro h; try exact xD)) | refine WC.skip ?_ | refine WC.ret ?_ | refine ThenD.r ?_)); all_goals (first | ((repeat clear hK); (repeat clear Kx))))
      all_goals try (exfalso; first | contradiction | omega)
      (refine ⟨trivial, _, rfl, ?_⟩; exact fD)
    · by_cases hp3 : (p.length : Int) > 300
      · ((repeat' (first | ((first | apply WL.opN | apply WD.opN); exact yF; dsimp only [setD, z0, z1]) | refine WL.nil ?_ | refine WC.seqK fun Kx hK => ?_ | (refine hK _ _ ?_; clear hK) | refine WC.region ?_ | ((first | apply WL.opG | apply WD.op); (focus (first | exact wN | (apply SYG.yes; (exact wY); ((first | ((first | apply SY.move | apply SY.assign | apply SY.lss | apply SY.gtr | apply SY.geq | apply SY.eql | apply SY.neq | apply SY.not) <;> (exact oD)) | (apply SY.len; (exact oD); (exact nD); (exact uD)) | (apply SY.pickF; (exact oD); (with_reducible rfl); (exact oD)) | fail); all_goals infer_instance)))); dsimp only [setD, z0, z1]) | ((first | refine WL.caseP rfl rfl rfl (fun h => ?_) (fun h => ?_) | refine WL.caseN rfl rfl rfl (fun h => ?_) (fun h => ?_) | refine WL.caseB rfl rfl rfl (fun h => ?_) (fun h => ?_) | refine WD.caseP rfl rfl rfl (fun h => ?_) (fun h => ?_) | refine WD.caseN rfl rfl rfl (fun h => ?_) (fun h => ?_) | refine WD.caseB rfl rfl rfl (fun h => ?_) (fun h => ?_)) <;> (first | (exfalso; first | omega | contradiction) | (dsimp only [z0, z1]))) | (apply WC.condD; (exact oD); all_goals (intro h; try exact xD)) | (apply WC.condN; (exact oD); all_goals (intro h; try exact xD)) | refine WC.skip ?_ | refine WC.ret ?_ | refine ThenD.r ?_)); all_goals (first | ((repeat clear hK); (repeat clear Kx))))
        all_goals try (exfalso; first | contradiction | omega)
        (refine ⟨trivial, _, rfl, ?_⟩; exact fD)
      have hv1 := refut_verify (by omega) hRf hck (by omega)
      have ht := trim43_p (N : Int) l p hr
      rw [hv1] at ht
      simp only [ne_eq, not_true_eq_false, if_false] at ht
      obtain ⟨hRt, hsub, _⟩ := trim_facts (by omega) hRf
      have hlt := hsub.length_le
      generalize trimI l p = sp at ht hRt hlt
      have hv2 := refut_verify (by omega) hRt hck (by omega)
      have hcr := core43_p (N : Int) l sp hr
      rw [hv2] at hcr
      simp only [ne_eq, not_true_eq_false, if_false] at hcr
      obtain ⟨hc1, hc2, _⟩ := core_facts (by omega) hRt
      have hkr : ∀ y ∈ coreI l sp, 0 ≤ y ∧ y < l.length := fun y hy => upI_mem (hc1.subset hy)
      have hkl : (coreI l sp).length ≤ l.length := by have := hc1.length_le; rwa [upI_length] at this
      generalize coreI l sp = ks at hcr hc1 hc2 hkr hkl
      obtain ⟨_, _, hll, hcl⟩ := checkI_zero hck
      have hw : WfL N l := (clausesI_iff (by omega)).1 hcl
      have hwp : WfL N (chosenI l ks) := fun d hd => hw d (chosenI_mem hkr d hd)
      have hckp : checkI (N : Int) (chosenI l ks) = 0 := by
        have hl0 : (chosenI l ks).length ≤ 32768 := by rw [chosenI_length]; omega
        have hs0 : sizesI (N : Int) (chosenI l ks).length = 0 := by unfold sizesI; rw [if_neg (by omega), if_neg (by omega)]
        unfold checkI
        rw [hs0, if_neg (by simp)]
        exact (clausesI_iff (by omega)).2 hwp
      have hRp : Refut N (chosenI l ks) sp := by
        obtain ⟨o1, o2⟩ := refutesI_iff.1 hc2
        exact ⟨hwp, hRt.wp, o1, o2⟩
      have hvl := verify43_p (N : Int) l sp hr
      rw [hv2] at hvl
      have hvp := verify43_p (N : Int) (chosenI l ks) sp (irr_wf (by omega) hwp)
      rw [refut_verify (by omega) hRp hckp (by omega)] at hvp
      have hsp := solve_c N (chosenI l ks) (by omega) hckp
      have hltI : ¬ (sp.length : Int) > (p.length : Int) := by omega
      (repeat' (first | ((first | apply WL.opN | apply WD.opN); exact yF; dsimp only [setD, z0, z1]) | refine WL.nil ?_ | refine WC.seqK fun Kx hK => ?_ | (refine hK _ _ ?_; clear hK) | refine WC.region ?_ |  (refine WL.allocS (zs := [.int .i64 0, .slice none 0 0]) tzV (by decide) (by simp [Value.oneCell']) fun b1 => ?_; dsimp only [setD, z0, z1]) |  (refine WL.storeW tyV (OpD.t rfl) (OpD.t rfl) rfl rfl ?_; dsimp only [setD, z0, z1]) | ((first | apply WL.opG | apply WD.op); (focus (first | exact wN | (apply SYG.yes; (exact wY); ((first | (apply SY.call (ht) Try.call18; (exact aD)) | (apply SY.call (hcr) Try.call19; (exact aD)) | (exact SY.mkA1 (OpD.t rfl)) | ((first | apply SY.move | apply SY.assign | apply SY.lss | apply SY.gtr | apply SY.geq | apply SY.eql | apply SY.neq | apply SY.not) <;> (exact oD)) | ((first | apply SY.add) <;> first | exact oD | omega) | (apply SY.len; (exact oD); (exact nD); (exact uD)) | (apply SY.fldP0 clT; exact OpD.t rfl) | (apply SY.fldP1 clT; exact OpD.t rfl) | (apply SY.pickF; (exact oD); (with_reducible rfl); (exact oD)) | (apply SY.extract; (exact oD); rfl) | fail); all_goals infer_instance)))); dsimp only [setD, z0, z1]) | ((first | refine WL.caseP rfl rfl rfl (fun h => ?_) (fun h => ?_) | refine WL.caseN rfl rfl rfl (fun h => ?_) (fun h => ?_) | refine WL.caseB rfl rfl rfl (fun h => ?_) (fun h => ?_) | refine WD.caseP rfl rfl rfl (fun h => ?_) (fun h => ?_) | refine WD.caseN rfl rfl rfl (fun h => ?_) (fun h => ?_) | refine WD.caseB rfl rfl rfl (fun h => ?_) (fun h => ?_)) <;> (first | (exfalso; first | omega | contradiction) | (dsimp only [z0, z1]))) | (apply WC.condD; (exact oD); all_goals (intro h; try exact xD)) | (apply WC.condN; (exact oD); all_goals (intro h; try exact xD)) | refine WC.skip ?_ | refine WC.block ?_))
      all_goals try (exfalso; first | contradiction | omega)
      refine WC.nilRow 25 Ints (WC.perm (List.Perm.swap _ _ _) ?_)
      (refine WC.loopU (X := Nat × Value) (fun x => [(109, dI (x.1 : Int)), (2, dA), (18, dA), (110, dA), (111, dA), (112, dA), (113, dA), (114, dA), (115, dA), (116, dA), (117, dA), (118, dA), (119, dA), (120, dA), (121, dA), (122, dA), (123, dA), (124, dA), (125, dA), (126, dA), (127, dA), (128, dA), (129, dA), (130, dA), (131, dA), (132, dA)]) (fun x => ([hStr b1 24 [dI (N : Int), dX x.2], hRow x.2 25 Ints (chosenI l (ks.take x.1))])) (fun x => ks.length - x.1) (fun x => x.1 ≤ ks.length) (0, nilV) ?start ?frame0 ?objs0 ?round)
      case start => exact Nat.zero_le _
      case frame0 => ((try dsimp only [upds, z0, z1]); repeat (first | exact LeF.nil | refine LeF.co (k := ?_)))
      case objs0 => rfl
      case round =>
        rintro ⟨i, vo⟩ hi
        simp only at hi
        dsimp only [upds, z0, z1]
        by_cases hil : i < ks.length
        · have hlti : (i : Int) < (ks.length : Int) := by omega
          obtain ⟨k, hk⟩ : ∃ k, ks[i] = k := ⟨_, rfl⟩
          obtain ⟨q1, q2⟩ := hkr k (by rw [← hk]; exact List.getElem_mem hil)
          have hg1 : ¬ k < 0 := by omega
          have hg2 : ¬ k ≥ (l.length : Int) := by omega
          have hkn : k.toNat < l.length := by omega
          have hkc : (k.toNat : Int) = k := by omega
          have et := chosen_take (l := l) hil
          rw [hk] at et
          have hgd : l.getD k.toNat [] = l[k.toNat] := by rw [List.getD_eq_getElem?_getD, List.getElem?_eq_getElem hkn]; rfl
          rw [hgd] at et
          have hcln : (chosenI l (ks.take i)).length = i := by rw [chosenI_length, List.length_take]; omega
          have h24 : ((chosenI l (ks.take i)).length + 1) * 24 ≤ 140737488355328 := by omega
          ((repeat' (first |  (refine WC.drawM (fun hp' => hStr b1 24 [dI (N : Int), dX vo] ∈ hp') 9 2 [(0, false), (1, false), (2, false), (3, false), (4, false), (5, false), (6, false), (7, false), (8, true)] [true, true, true, true, true, true, true, true, true, false, false] (by kernel_rfl) (by kernel_rfl) (by kernel_rfl) rfl (mAt 0 rfl) ?_) |  (first | refine WA.one (S := [true, true, true, true, true, true, true, true, true, false, false]) (i := 9) (by kernel_rfl) rfl ?_ | refine WA.one (S := [true, true, true, true, true, true, true, true, true, true, false]) (i := 10) (by kernel_rfl) rfl ?_ | refine WA.nil (S := [true, true, true, true, true, true, true, true, true, true, true]) (by kernel_rfl) ?_) |  (refine WM.writeL rfl (SW.at 1 rfl fun q => SW.app1 elSi (R := Ints) (_gR := inferInstance) (OpD.t rfl) (OpD.t rfl) (by decide) h24) (fun _ => mAt 0 rfl) fun vo2 => ?_; dsimp only [setD, z0, z1]) | (refine WM.nil ?_) | (apply WM.readL rfl; (focus (intro c hcc; apply SYG.yes; (exact want_none rfl); ((first | (refine SY.fldS strC (OpD.t rfl) (by decide)) | (apply SY.loadS; exact tySS; exact OpD.t rfl; (first | exact hcc | exact mAt 0 rfl); rfl) | (refine SY.ixJ (R := Ints) (_gR := inferInstance) elSi (OpD.t rfl) (OpD.t rfl) k.toNat hkc.symm hkn) | ((first | apply SY.move | apply SY.assign | apply SY.lss | apply SY.gtr | apply SY.geq | apply SY.eql | apply SY.neq | apply SY.not) <;> (exact oD)) | (apply SY.load; (exact tD); (exact oD)) | (apply SY.fldP0 clT; exact OpD.t rfl) | (apply SY.fldP1 clT; exact OpD.t rfl) | (apply SY.build1'; (exact eD); ((try simp only [List.map_cons, List.map_nil]); (repeat (first | exact ElsD.nl | (apply ElsD.cn; (first | exact OpD.t rfl | exact OpD.i | exact OpD.b | exact OpD.tle rfl (by first | exact Dat.le_nil | exact Dat.le_nilK (by decide)) | exact ⟨Dat.le_nil⟩ | exact ⟨Dat.le_nilK (by decide)⟩))))); rfl; rfl; (intro _; first | exact shape_K | exact shape_I | exact shape_A | exact shape_B); (exact (by simp))) | fail); all_goals infer_instance))); dsimp only [setD, z0, z1]) | ((first | apply WL.opN | apply WD.opN); exact yF; dsimp only [setD, z0, z1]) | refine WL.nil ?_ | refine WC.seqK fun Kx hK => ?_ | (refine hK _ _ ?_; clear hK) | refine WC.region ?_ |  (refine WL.rowIs (mAt 1 rfl) fun hvv => ?_; refine WL.ofSW (SW.at 0 rfl fun q => SW.storeS tySS (OpD.t rfl) (OpD.t rfl) (shape_X hvv) (by simp)) fun _ => ?_; dsimp only [setD, z0, z1]) | ((first | apply WL.opG | apply WD.op); (focus (first | exact wN | (apply SYG.yes; (exact wY); ((first | (refine SY.ixE1 (R := RI) (_gR := inferInstance) elI hil hk (OpD.t rfl) (OpD.t rfl)) | (refine SY.fldS strC (OpD.t rfl) (by decide)) | ((first | apply SY.move | apply SY.assign | apply SY.lss | apply SY.gtr | apply SY.geq | apply SY.eql | apply SY.neq | apply SY.not) <;> (exact oD)) | ((first | apply SY.add) <;> first | exact oD | omega) | (apply SY.load; (exact tD); (exact oD)) | (apply SY.len; (exact oD); (exact nD); (exact uD)) | (apply SY.fldP0 clT; exact OpD.t rfl) | (apply SY.fldP1 clT; exact OpD.t rfl) | (apply SY.pickF; (exact oD); (with_reducible rfl); (exact oD)) | fail); all_goals infer_instance)))); dsimp only [setD, z0, z1]) | ((first | refine WL.caseP rfl rfl rfl (fun h => ?_) (fun h => ?_) | refine WL.caseN rfl rfl rfl (fun h => ?_) (fun h => ?_) | refine WL.caseB rfl rfl rfl (fun h => ?_) (fun h => ?_) | refine WD.caseP rfl rfl rfl (fun h => ?_) (fun h => ?_) | refine WD.caseN rfl rfl rfl (fun h => ?_) (fun h => ?_) | refine WD.caseB rfl rfl rfl (fun h => ?_) (fun h => ?_)) <;> (first | (exfalso; first | omega | contradiction) | (dsimp only [z0, z1]))) | (apply WC.condD; (exact oD); all_goals (intro h; try exact xD)) | refine WC.skip ?_ | refine WC.block ?_ | refine ThenD.n ?_)); all_goals (first | ((repeat clear hK); (repeat clear Kx))))
          all_goals try (exfalso; first | contradiction | omega)
          rw [← et]
          (refine ⟨(i + 1, vo2), ?_, by first | omega | (simp only; omega), rfl, ?_⟩; rotate_left; ((try dsimp only [upds, z0, z1]); repeat (first | exact LeF.nil | refine LeF.co (k := ?_))); (try dsimp only))
          omega
        · have hlti : ¬ (i : Int) < (ks.length : Int) := by omega
          obtain rfl : i = ks.length := by omega
          rw [List.take_length]
          (repeat' (first |  (refine WC.only 28 (Halt.go ?_)) | refine WL.nil ?_ | refine WC.seqK fun Kx hK => ?_ | (refine hK _ _ ?_; clear hK) | (refine Kont.skip ?_; clear hK) | refine WC.region ?_ | ((first | apply WL.opG | apply WD.op); (focus (first | exact wN | (apply SYG.yes; (exact wY); ((first | ((first | apply SY.move | apply SY.assign | apply SY.lss | apply SY.gtr | apply SY.geq | apply SY.eql | apply SY.neq | apply SY.not) <;> (exact oD)) | fail); all_goals infer_instance)))); dsimp only [setD, z0, z1]) | (apply WC.condD; (exact oD); all_goals (intro h; try exact xD)) | refine WC.exit ?_))
          all_goals try (exfalso; first | contradiction | omega)
          refine ⟨WC.keepS1 (k := 1) rfl ?_⟩
          dsimp only [z0, z1]
          (repeat' (first |  (refine WC.only 31 (Halt.go ?_)) | ((first | apply WL.opN | apply WD.opN); exact yF; dsimp only [setD, z0, z1]) | refine WL.nil ?_ | refine WC.seqK fun Kx hK => ?_ | (refine hK _ _ ?_; clear hK) | refine WC.region ?_ |  (refine WL.callC (hp1 := []) (caps := []) hsp Try.call16 OpD.f (ArgsD.cons (OpD.tle rfl (agg_le (Dat.le_refl _) (Dat.le_refl _))) ArgsD.nil) ?_; rintro d' hp2 ⟨rfl, e2, e3, e4, e5, rfl, v, mm, pp, rfl, rfl, rfl, rfl, hR2⟩; dsimp only [setD, z0, z1, List.nil_append]) | ((first | apply WL.opG | apply WD.op); (focus (first | exact wN | (apply SYG.yes; (exact wY); ((first | (exact SY.loadW tyV (OpD.t rfl) (mAt 0 rfl) (by decide) rfl) | (apply SY.call hvp Try.call13; exact ArgsD.cons (OpD.tle rfl (agg_le (Dat.le_refl _) (Dat.le_refl _))) (ArgsD.cons (OpD.t rfl) ArgsD.nil)) | (apply SY.call hvl Try.call13; exact ArgsD.cons (OpD.t rfl) (ArgsD.cons (OpD.t rfl) ArgsD.nil)) | (apply SY.extract; (exact oD); rfl) | fail); all_goals infer_instance)))); dsimp only [setD, z0, z1])))
          all_goals try (exfalso; first | contradiction | omega)
          refine ⟨?_⟩
          have hvm : v = 2 := by
            rcases hR2.is with ⟨_, _, q⟩ | ⟨q1, q2, _⟩
            · rw [refut_none (by omega) hRp] at q; cases q
            · exact q1
          subst hvm
          ((repeat' (first | ((first | apply WL.opN | apply WD.opN); exact yF; dsimp only [setD, z0, z1]) | refine WL.nil ?_ | (refine hK _ _ ?_; clear hK) | refine WC.region ?_ | ((first | apply WL.opG | apply WD.op); (focus (first | exact wN | (apply SYG.yes; (exact wY); ((first | ((first | apply SY.move | apply SY.assign | apply SY.lss | apply SY.gtr | apply SY.geq | apply SY.eql | apply SY.neq | apply SY.not) <;> (exact oD)) | ((first | apply SY.add) <;> first | exact oD | omega) | (apply SY.pickT; (exact oD); (with_reducible rfl); (exact oD)) | fail); all_goals infer_instance)))); dsimp only [setD, z0, z1]) | ((first | refine WL.caseP rfl rfl rfl (fun h => ?_) (fun h => ?_) | refine WL.caseN rfl rfl rfl (fun h => ?_) (fun h => ?_) | refine WL.caseB rfl rfl rfl (fun h => ?_) (fun h => ?_) | refine WD.caseP rfl rfl rfl (fun h => ?_) (fun h => ?_) | refine WD.caseN rfl rfl rfl (fun h => ?_) (fun h => ?_) | refine WD.caseB rfl rfl rfl (fun h => ?_) (fun h => ?_)) <;> (first | (exfalso; first | omega | contradiction) | (dsimp only [z0, z1]))) | refine WC.ret ?_)); all_goals (first | ((repeat clear hK); (repeat clear Kx))))
          all_goals try (exfalso; first | contradiction | omega)
          (refine ⟨trivial, _, rfl, ?_⟩; exact fD)
  · have hq' : (fewB V l && (decide (checkI V l = 0) && decide (V ≤ 8))) = false := by simpa using hq
    rw [hq'] at htc
    (refine Fn.intro1 Try.func4 rfl rfl ?_; simp only [Try.ntmps4, List.length_cons, List.length_nil, Nat.reduceAdd, Nat.reduceSub, List.replicate_succ, List.replicate_zero, List.cons_append, List.nil_append])
    ((repeat' (first | ((first | apply WL.opN | apply WD.opN); exact yF; dsimp only [setD, z0, z1]) | refine WL.nil ?_ | refine WC.seqK fun Kx hK => ?_ | (refine hK _ _ ?_; clear hK) | refine WC.region ?_ | ((first | apply WL.opG | apply WD.op); (focus (first | exact wN | (apply SYG.yes; (exact wY); ((first | (apply SY.call (hts) Try.call10; (exact aD)) | (apply SY.call (htc) Try.call11; (exact aD)) | ((first | apply SY.move | apply SY.assign | apply SY.lss | apply SY.gtr | apply SY.geq | apply SY.eql | apply SY.neq | apply SY.not) <;> (exact oD)) | (apply SY.box; (exact oD); (exact hD)) | fail); all_goals infer_instance)))); dsimp only [setD, z0, z1]) | (apply WC.condNB; (exact oD); all_goals (intro h; try exact xD)) | refine WC.skip ?_ | refine WC.ret ?_ | refine ThenD.r ?_)); all_goals (first | ((repeat clear hK); (repeat clear Kx))))
    all_goals try (exfalso; first | contradiction | omega)
    (refine ⟨trivial, _, rfl, ?_⟩; exact fD)
end Go.Proofs.Ytpiidgcljlalmaa
namespace Go.Proofs.Ytpiidgcljlalmaa
open Go.ChangeShapes Go.WideShapes Go.ChangeAt Go.RowKit
set_option maxRecDepth 100000

theorem own : ownKnob Try.prog.godebug = none := by kernel_rfl
theorem laidOut : laidOutB Try.prog = true := by kernel_rfl
theorem cellsOfI : Try.prog.cellsOf 3 = 1 := by kernel_rfl
theorem cellsOfR : Try.prog.cellsOf 25 = 1 := by kernel_rfl

section
variable {H : Type} {enc : TypeId × Value → H}

theorem irr_of_wf {n : Int} (h : (Lit.int .i64 n).wf = true) : IR n := by
  simpa [Lit.wf, IntKind.min, IntKind.max, IntKind.signed, IntKind.bits, IR] using h

theorem arr_at {α : Type} {R : Rel α} {w : World} {a : Addr} {cap : Nat} {xs : List α} (hl : xs.length ≤ cap) (hm : cap ≤ maxLen) (h : ∀ k (hk : k < xs.length), ∃ u, R anyB w u xs[k] ∧ u.oneCell' = true ∧ w.cell? (a.add k) = some u) :
    Arr R anyB w (.slice (some a) xs.length cap) xs := by
  refine ⟨some a, cap, rfl, hl, hm, fun k hk => ?_⟩
  obtain ⟨u, h1, h2, h3⟩ := h k hk
  obtain ⟨u0, _, _, h0⟩ := h 0 (by omega)
  have hs := World.cell?_spot h0
  obtain ⟨b, off, sp⟩ := a
  obtain rfl : sp = none := by simpa [Addr.add] using hs
  exact ⟨u, b, off, h1, h2, rfl, trivial, by rw [Addr.add_lit] at h3; exact h3⟩

theorem open_I {w : World} {fuel : Nat} {v : Value} {x : DataW H × List MemPlace} (h : DataW.trod enc Try.prog w 0 (fun _ => true) true fuel 25 [v] = some x) :
    ∃ zs, Ints anyB w v zs ∧ ∀ z ∈ zs, IR z := by
  rcases open_ints Try.underlying25 Try.underlying3 cellsOfI h with ⟨hc, _⟩ | ⟨a, len, cap, zs, hc, _, hl, hm, hz, _, hcell, hw⟩
  · obtain rfl : v = .slice none 0 0 := by simpa using hc
    exact ⟨[], Arr.nil', fun z hz => by cases hz⟩
  · obtain rfl : v = .slice (some a) len cap := by simpa using hc
    simp only [if_true] at hz
    have hlen : (zs.take len).length = len := by simp; omega
    refine ⟨zs.take len, ?_, fun z hz' => irr_of_wf (hw z (List.mem_of_mem_take hz'))⟩
    have := arr_at (R := RI) (w := w) (a := a) (cap := cap) (xs := zs.take len) (by omega) hm (fun k hk => ⟨_, rfl, rfl, by
      rw [hcell k (by omega)]
      rw [List.getElem_take, List.getD_eq_getElem?_getD, List.getElem?_eq_getElem (by omega)]; rfl⟩)
    rw [hlen] at this
    exact this
theorem open_I' {w : World} {r : Reach} {b0 : Nat} {v : Value} {d : DataW H} {ps : List MemPlace} (hv : Value.okWide Try.prog w r b0 25 v) (h : DataW.Trod enc Try.prog w 0 (fun _ => true) true 25 v d ps) : ∃ zs, Ints anyB w v zs ∧ ∀ z ∈ zs, IR z := by
  obtain ⟨fuel, h⟩ := h
  obtain ⟨a, len, cap, rfl⟩ := okWide_slice Try.underlying25 hv
  exact open_I h

theorem open_R {w : World} {fuel : Nat} {v : Value} {x : DataW H × List MemPlace} (h : DataW.trod enc Try.prog w 0 (fun _ => true) true fuel 22 [v] = some x) :
    ∃ l, Rows anyB w v l ∧ IRR l := by
  rcases Deep.open_int_rows Try.underlying22 Try.underlying25 Try.underlying3 cellsOfR cellsOfI h with ⟨hc, _⟩ | ⟨a, len, cap, A, L, C, Z, hc, _, hl, hm, _, hr⟩
  · obtain rfl : v = .slice none 0 0 := by simpa using hc
    exact ⟨[], Arr.nil', fun z hz => by cases hz⟩
  · obtain rfl : v = .slice (some a) len cap := by simpa using hc
    have hlen : ((List.range len).map fun r => (Z r).take (L r)).length = len := by simp
    refine ⟨(List.range len).map fun r => (Z r).take (L r), ?_, ?_⟩
    · have := arr_at (R := Arr RI) (w := w) (a := a) (cap := cap) (xs := (List.range len).map fun r => (Z r).take (L r)) (by omega) hm (fun k hk => by
        rw [hlen] at hk
        obtain ⟨h1, h2, h3, h4, h5, h6, h7⟩ := hr k (by omega)
        refine ⟨_, ?_, rfl, h1⟩
        simp only [List.getElem_map, List.getElem_range]
        have hlk : ((Z k).take (L k)).length = L k := by simp; omega
        cases hA : A k with
        | none =>
          have hC := h6 hA
          have hz : (Z k).take (L k) = [] := List.eq_nil_of_length_eq_zero (by omega)
          rw [hz, show L k = 0 from by omega]
          exact Arr.nil none (C k) (by omega)
        | some a' =>
          have := arr_at (R := RI) (w := w) (a := a') (cap := C k) (xs := (Z k).take (L k)) (by omega) h3 (fun j hj => ⟨_, rfl, rfl, by
            rw [(h7 a' hA).2 j (by omega), List.getElem_take, List.getD_eq_getElem?_getD, List.getElem?_eq_getElem (by omega)]; rfl⟩)
          rw [hlk] at this
          exact this)
      rw [hlen] at this
      exact this
    · intro c hc x hx
      simp only [List.mem_map, List.mem_range] at hc
      obtain ⟨r, hr', rfl⟩ := hc
      obtain ⟨_, _, _, _, h5, _, _⟩ := hr r (by omega)
      exact irr_of_wf (h5 x (List.mem_of_mem_take hx))
theorem open_R' {w : World} {r : Reach} {b0 : Nat} {v : Value} {d : DataW H} {ps : List MemPlace} (hv : Value.okWide Try.prog w r b0 22 v) (h : DataW.Trod enc Try.prog w 0 (fun _ => true) true 22 v d ps) : ∃ l, Rows anyB w v l ∧ IRR l := by
  obtain ⟨fuel, h⟩ := h
  obtain ⟨a, len, cap, rfl⟩ := okWide_slice Try.underlying22 hv
  exact open_R h

theorem open_C {w : World} {r : Reach} {b0 : Nat} {v : Value} {d : DataW H} {ps : List MemPlace} (hv : Value.okWide Try.prog w r b0 24 v) (h : DataW.Trod enc Try.prog w 0 (fun _ => true) true 24 v d ps) :
    ∃ (n : Int) (u : Value) (l : List (List Int)), v = .agg #[.int .i64 n, u] ∧ Rows anyB w u l ∧ IRR l ∧ IR n := by
  obtain ⟨v0, v1, y0, y1, m, rfl, _, _, h0, h1⟩ := Joins.open_agg2 Try.underlying24 (by kernel_rfl) (by kernel_rfl) hv h
  obtain ⟨l, hl, hr⟩ := open_R h1
  obtain ⟨n, hn, _, hw⟩ := DataW.trod_int Try.underlying3 h0
  obtain rfl : v0 = .int .i64 n := by simpa using hn
  exact ⟨n, v1, l, rfl, hl, hr, irr_of_wf hw⟩
theorem open_Q' {w : World} {r : Reach} {b0 : Nat} {v : Value} {d : DataW H} {ps : List MemPlace} (hv : Value.okWide Try.prog w r b0 24 v) (h : DataW.Trod enc Try.prog w 0 (fun _ => true) true 24 v d ps) : ∃ x : Int × List (List Int), (dS Cls x).rd anyB w v ∧ IRR x.2 ∧ IR x.1 := by
  obtain ⟨n, u, l, rfl, h1, h2, h3⟩ := open_C hv h
  refine ⟨(n, l), ⟨_, _, rfl, rfl, ?_, rfl, h1⟩, h2, h3⟩
  obtain ⟨a, c, rfl, _⟩ := h1
  rfl
theorem open_Z' {w : World} {r : Reach} {b0 : Nat} {v : Value} {d : DataW H} {ps : List MemPlace} (hv : Value.okWide Try.prog w r b0 25 v) (h : DataW.Trod enc Try.prog w 0 (fun _ => true) true 25 v d ps) : ∃ x, (dS Ints x).rd anyB w v ∧ ∀ z ∈ x, IR z := open_I' hv h
theorem open_RR' {w : World} {r : Reach} {b0 : Nat} {v : Value} {d : DataW H} {ps : List MemPlace} (hv : Value.okWide Try.prog w r b0 22 v) (h : DataW.Trod enc Try.prog w 0 (fun _ => true) true 22 v d ps) : ∃ x, (dS Rows x).rd anyB w v ∧ IRR x := open_R' hv h
end

section
variable {H : Type} {enc : TypeId × Value → H}

theorem args_kept {W W' : World} (hE : Ext W W') : ∀ {ts : List TypeId} {vs : List Value} {ds : List (DataW H)} {ps : List MemPlace}, (∀ t ∈ ts, Try.prog.readableRec t = true ∧ t < Try.prog.types.size) → (∀ p ∈ ps, p.block < W.heap.size) →
    DataW.TrodAll enc Try.prog W 0 (fun _ => true) true ts vs ds ps → DataW.TrodAll enc Try.prog W' 0 (fun b => decide (b < W.heap.size)) true ts vs ds ps
  | [], _, _, _, _, _, h => by
    obtain ⟨rfl, rfl, rfl⟩ := trodAll_nil h
    exact trodAll_mk0
  | t :: ts, _, _, _, ht, hlt, h => by
    obtain ⟨v, vs1, d, ds1, a, b, rfl, rfl, rfl, h1, h2⟩ := trodAll_cons h
    exact trodAll_cons_mk (Below.trod laidOut (ht t (by simp)).1 (ht t (by simp)).2 h1 hE (fun x hx => hlt x (by simp [hx]))) (args_kept hE (fun t' h' => ht t' (by simp [h'])) (fun p hp => hlt p (by simp [hp])) h2)

theorem post_law {f : Func} {s : ChangeSpec} {W W' : World} {args : Array Value} {ds gs : List (DataW H)} {before : List MemPlace} (hW : DataW.Whole enc Try.prog f.params.toList s.vars false W args.toList ds gs before) (hvars : s.vars = [])
    (hr : f.resultTypes = #[4]) (hs : s.fn H ds = { results := [.lit (.bool true)], args := ds }) (ht : ∀ t ∈ f.params.toList, Try.prog.readableRec t = true ∧ t < Try.prog.types.size) (hE : Ext W W') :
    s.post enc Try.prog f false true false false W args (.bool true) W' := by
  have hlt := hW.lt
  have hW' := hW
  obtain ⟨p, q, hA, hV, rfl, hfz, hnd⟩ := hW
  rw [hvars] at hV
  obtain ⟨rfl, rfl⟩ := trodVars_none hV
  refine ⟨ds, [], p ++ [], [], p, [], hW', ?_, ?_, ?_, hE.frame _, fun h => by cases h⟩
  · rw [hr, List.append_nil, hs]
    exact trodAll_mk1 (shut_bool Try.underlying4 true)
  · rw [List.append_nil, hs]
    exact args_kept hE ht (fun x hx => hlt x (by simp [hx])) hA
  · rw [hvars, List.append_nil, hs]
    rfl
theorem fn_law {f : FuncId} {ds : List Dat} (hF : Fn Try.prog f ds (dB true)) {W : World} {vs : List Value} (hl : vs.length = ds.length) (h : ∀ (i : Nat) (d : Dat), ds[i]? = some d → d.rd anyB W (vs.getD i undef)) :
    Calls Try.prog f vs.toArray W fun e W' => e = .returned (.bool true) ∧ Ext W W' :=
  (hF.out anyB W vs hl h).mono fun _ _ ⟨_, h1, h2, h3⟩ => by cases (h3 : _ = _); exact ⟨h1, h2⟩
end
end Go.Proofs.Ytpiidgcljlalmaa
