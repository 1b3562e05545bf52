/- Part 2: walks by contracts, and plain laws. -/
import Derived.Test.YtpiidgcljlalmaaVg1
set_option linter.unusedVariables false
set_option linter.unusedSimpArgs false
set_option linter.unusedSectionVars false
namespace Go.Proofs.Ytpiidgcljlalmaa
open Go.RowKit
theorem all_leB (l : List (List Int)) (V : Nat) : (allF V l []).length ≤ 2 ^ V := by
  rw [all_filter V (l := l)]
  exact Nat.le_trans (List.length_filter_le _ _) (Nat.le_of_eq (all_pow V [] fun c hc => by cases hc))
theorem blockS_c (V : Nat) (l : List (List Int)) (v : Value) (hV : V ≤ 10) (hck : checkI (V : Int) l = 0) (hm : allF V l [] ≠ []) : CallC Try.prog 16 ([dAgg [dI (V : Int), dX v]] ++ ([] : List Value).map dX) [hRow v 25 Ints l] (fun d hp2 => ∃ x : {x : Value × List Int // x.2 ∈ allF V l []}, d = dT [dI 1, dX x.1.1, dX nilV, dI 0] ∧ hp2 = [hRow x.1.1 3 RI x.1.2, hRow v 25 Ints l]) :=
  (CallC.lend (solveO_c V l hV hck hm) (fun d hp2 ⟨e2, e3, e4, e5, h1, v, m, h2, h3, h4, h5, h6, _⟩ => by
    subst h1 h2 h3 h4 h5
    refine ⟨fun I I' w u ⟨vs, q1, q2, q3⟩ => ⟨vs, q1, q2, fun i e x he hx => ?_⟩, _, h6, fun I I' w ⟨us, q1, q2, q3⟩ => ⟨us, q1, q2, fun k a b => ⟨(q3 k a b).1, (q3 k a b).2⟩⟩⟩
    match i, he with
    | 0, he => cases he; exact q3 0 _ x rfl hx
    | 1, he => cases he; exact q3 1 _ x rfl hx
    | 2, he => cases he; exact q3 2 _ x rfl hx
    | 3, he => cases he; exact q3 3 _ x rfl hx)).monoK fun d hp2 ⟨o, ⟨e2, e3, e4, e5, h1, v, m, h2, h3, h4, h5, h6, h7⟩, h8⟩ => ⟨⟨(v, m), h7⟩, by subst h1 h2 h3 h4 h5; rfl, by rw [h8]; cases h6; rfl⟩
set_option linter.unusedSimpArgs false
set_option linter.unusedVariables false
set_option maxHeartbeats 2000000
set_option maxRecDepth 100000
theorem blockP_p (m v : List Int) : Fn Try.prog 34 ([dS Ints v] ++ [dP 1 false (dS Ints m)]) (dB (decide (v = m))) := by
  have h1 := equal43_p v m
  show Fn Try.prog 34 [dS Ints v, dP 1 false (dS Ints m)] (dB (decide (v = m)))
  (refine Fn.intro1 Try.func34 rfl rfl ?_; simp only [Try.ntmps34, List.length_cons, List.length_nil, Nat.reduceAdd, Nat.reduceSub, List.replicate_succ, List.replicate_zero, List.cons_append, List.nil_append])
  ((repeat' (first | (apply WL.opN; exact yF; dsimp only [setD, z0, z1]) | refine WL.nil ?_ | refine WC.seqK fun Kx hK => ?_ | (refine hK _ _ ?_; clear hK) | refine WC.region ?_ | (apply WL.opN; (focus ((first | (apply SY.call (h1) Try.call35; (exact aD)) | fail); all_goals infer_instance)); dsimp only [setD, z0, z1]) | refine WC.ret ?_)); all_goals (first | ((repeat clear hK); (repeat clear Kx))))
  all_goals try (exfalso; first | contradiction | omega)
  (refine ⟨trivial, _, rfl, ?_⟩; exact fD)
set_option maxHeartbeats 16000000 in
theorem blocks_p (V : Int) (l : List (List Int)) (hr : IRR l) : Fn Try.prog 9 [dS Cls (V, l)] (dB true) := by
  have haw := awake_p
  have hg := good43_p V l 5
  cases hq : (fewB V l && (decide (checkI V l = 0) && decide (V ≤ 5))) with
  | false =>
    rw [hq] at hg
    (refine Fn.intro1 Try.func9 rfl rfl ?_; simp only [Try.ntmps9, List.length_cons, List.length_nil, Nat.reduceAdd, Nat.reduceSub, List.replicate_succ, List.replicate_zero, List.cons_append, List.nil_append])
    ((repeat' (first | ((first | apply WL.opN | apply WD.opN); exact yF; dsimp only [setD, z0, z1]) | refine WL.nil ?_ | refine WC.seqK fun Kx hK => ?_ | (refine hK _ _ ?_; clear hK) | refine WC.region ?_ | ((first | apply WL.opG | apply WD.op); (focus (first | exact wN | (apply SYG.yes; (exact wY); ((first | (apply SY.call (hg) Try.call26; (exact aD)) | (apply SY.call (haw) Try.call21; (exact aD)) | ((first | apply SY.move | apply SY.assign | apply SY.lss | apply SY.gtr | apply SY.eql | apply SY.neq | apply SY.not) <;> (exact oD)) | (apply SY.box; (exact oD); (exact hD)) | fail); all_goals infer_instance)))); dsimp only [setD, z0, z1]) | (apply WC.condNB; (exact oD); all_goals (intro h; try exact xD)) | refine WC.ret ?_ | refine ThenD.r ?_)); all_goals (first | ((repeat clear hK); (repeat clear Kx))))
    all_goals try (exfalso; first | contradiction | omega)
    (refine ⟨trivial, _, rfl, ?_⟩; exact fD)
  | true =>
    rw [hq] at hg
    simp only [Bool.and_eq_true, decide_eq_true_eq] at hq
    obtain ⟨hfw, hck, hV5⟩ := hq
    obtain ⟨N, rfl⟩ : ∃ N : Nat, V = (N : Int) := ⟨V.toNat, by have := (checkI_zero hck).1; omega⟩
    have hN5 : N ≤ 5 := by omega
    have hll := few43_len hfw hck
    have hw : WfL N l := (clausesI_iff (by omega)).1 (checkI_zero hck).2.2.2
    have h32 : (allF N l []).length ≤ 32 := Nat.le_trans (all_leB l N) (Nat.le_trans (Nat.pow_le_pow_right (by decide) hN5) (by decide))
    have hcn := count43_p N l (by omega) hck
    have hmo := models43_p N l 32 (by omega) (by decide) hck
    rw [if_pos h32, if_pos h32, show ((32 : Nat) : Int) = 32 from rfl] at hmo
    obtain ⟨n, hn⟩ : ∃ n, (allF N l []).length = n := ⟨_, rfl⟩
    rw [hn] at hcn h32
    have hlen : ((allF N l []).length : Int) = (n : Int) := by rw [hn]
    have hn1 : ¬ (n : Int) < 0 := by omega
    have hn2 : ¬ (n : Int) > 32 := by omega
    have hn3 : ¬ ((allF N l []).length : Int) ≠ (n : Int) := fun q => q hlen
    have hcR := cloneR_c l (by omega)
    (refine Fn.intro1 Try.func9 rfl rfl ?_; simp only [Try.ntmps9, List.length_cons, List.length_nil, Nat.reduceAdd, Nat.reduceSub, List.replicate_succ, List.replicate_zero, List.cons_append, List.nil_append])
    (repeat' (first |  (refine WC.joinX (α := Value × Nat) 7 (fun x => [(48, dA), (49, dA), (50, dA), (51, dA), (52, dA), (53, dA), (7, dX (.pointer (some ⟨x.2, 0, none⟩)))]) (fun x => [hStr x.2 24 [dI (N : Int), dX x.1], hRow x.1 25 Ints l]) ?_ fun x => ?_) | ((first | apply WL.opN | apply WD.opN); exact yF; dsimp only [setD, z0, z1]) | refine WL.nil ?_ | refine WC.seqK fun Kx hK => ?_ | (refine hK _ _ ?_; clear hK) | refine WC.region ?_ | ((first | apply WL.opG | apply WD.op); (focus (first | exact wN | (apply SYG.yes; (exact wY); ((first | (apply SY.call (hg) Try.call26; (exact aD)) | (apply SY.call (hcn) Try.call15; (exact aD)) | (apply SY.call (hmo) Try.call22; (exact aD)) | ((first | apply SY.move | apply SY.assign | apply SY.lss | apply SY.gtr | apply SY.eql | apply SY.neq | apply SY.not) <;> (exact oD)) | ((first | apply SY.add) <;> first | exact oD | omega) | (apply SY.len; (exact oD); (exact nD); (exact uD)) | (apply SY.pickF; (exact oD); (with_reducible rfl); (exact oD)) | (apply SY.extract; (exact oD); rfl) | (apply SY.box; (exact oD); (exact hD)) | fail); all_goals infer_instance)))); dsimp only [setD, z0, z1]) | ((first | refine WL.caseP rfl rfl rfl (fun h => ?_) (fun h => ?_) | refine WL.caseN rfl rfl rfl (fun h => ?_) (fun h => ?_) | refine WL.caseB rfl rfl rfl (fun h => ?_) (fun h => ?_) | refine WD.caseP rfl rfl rfl (fun h => ?_) (fun h => ?_) | refine WD.caseN rfl rfl rfl (fun h => ?_) (fun h => ?_) | refine WD.caseB rfl rfl rfl (fun h => ?_) (fun h => ?_)) <;> (first | (exfalso; first | omega | contradiction) | (dsimp only [z0, z1]))) | (apply WC.condN; (exact oD); all_goals (intro h; try exact xD)) | (apply WC.condNB; (exact oD); all_goals (intro h; try exact xD)) | refine WC.skip ?_))
    all_goals try (exfalso; first | contradiction | omega)
    · refine ⟨?_⟩
      ((repeat' (first |  (refine WC.drawT (fun _ => True) 7 1 3 [0, 1, 2, 3] [true, true, true, true, false, false, false, false] [true, true, true, true, true, true, true, false] (by kernel_rfl) (by kernel_rfl) (by kernel_rfl) rfl (trivial) ?_) | (refine WRd.nil ?_) | (apply WRd.readL rfl; (focus (intro c hcc; apply SYG.yes; (exact want_none rfl); ((first | (apply SY.load; (exact tD); (exact oD)) | (apply SY.fldP0 clT; exact OpD.t rfl) | (apply SY.fldP1 clT; exact OpD.t rfl) | fail); all_goals infer_instance))); dsimp only [setD, z0, z1]))); all_goals (first | ((repeat clear hK); (repeat clear Kx))))
      refine WT.two (i := 4) (j := 6) (by kernel_rfl) rfl (SW.callC (P := Try.prog) (hp := []) (hp1 := []) (caps := []) (H := fun v : Value => [hRow v 25 Ints l]) (D := fun v => dX v) hcR Try.call28 OpD.f (ArgsD.cons (OpD.t rfl) ArgsD.nil) (fun _ _ ⟨v, h1, h2⟩ => ⟨v, h1, h2⟩)) (fun _ => trivial) rfl (SW.alloc tzV shape_Z43) (fun _ => trivial) (fun v => ?_) (fun b => ?_) <;> dsimp only [setD, z0, z1, List.cons_append, List.nil_append]
      rotate_left 1
      refine WT.one (i := 4) (by kernel_rfl) rfl (SW.callC (P := Try.prog) (hp := [hCell b 24 2 true (dX (.agg #[.int .i64 0, .slice none 0 0]))]) (hp1 := []) (caps := []) (H := fun v : Value => [hRow v 25 Ints l]) (D := fun v => dX v) hcR Try.call28 OpD.f (ArgsD.cons (OpD.t rfl) ArgsD.nil) (fun _ _ ⟨v, h1, h2⟩ => ⟨v, h1, h2⟩)) (fun _ => trivial) (fun v => ?_); dsimp only [setD, z0, z1, List.cons_append, List.nil_append]
      refine WT.one (i := 5) (by kernel_rfl) rfl (SW.mkO (R := Ints) (_gR := inferInstance) (mAt 0 rfl) (OpD.t rfl) (OpD.t rfl)) (fun _ => trivial) (fun _ => ?_); dsimp only [setD, z0, z1, List.cons_append, List.nil_append]
      refine WT.done (by kernel_rfl) ?_
      rotate_left 1
      refine WT.two (i := 5) (j := 6) (by kernel_rfl) rfl (SW.mkO (R := Ints) (_gR := inferInstance) (mAt 0 rfl) (OpD.t rfl) (OpD.t rfl)) (fun _ => trivial) rfl (SW.alloc tzV shape_Z43) (fun _ => trivial) (fun _ => ?_) (fun b => ?_) <;> dsimp only [setD, z0, z1, List.cons_append, List.nil_append]
      refine WT.one (i := 6) (by kernel_rfl) rfl (SW.alloc tzV shape_Z43) (fun _ => trivial) (fun b => ?_); dsimp only [setD, z0, z1, List.cons_append, List.nil_append]
      refine WT.done (by kernel_rfl) ?_
      rotate_left 1
      refine WT.one (i := 5) (by kernel_rfl) rfl (SW.mkO (R := Ints) (_gR := inferInstance) (mAt 1 rfl) (OpD.t rfl) (OpD.t rfl)) (fun _ => trivial) (fun _ => ?_); dsimp only [setD, z0, z1, List.cons_append, List.nil_append]
      refine WT.done (by kernel_rfl) ?_
      all_goals
        ((repeat' (first |  (first | refine WA.one (S := [true, true, true, true, true, true, true, false]) (i := 7) (by kernel_rfl) rfl ?_ | refine WA.nil (S := [true, true, true, true, true, true, true, true]) (by kernel_rfl) ?_) | refine WL.nil ?_ |  (refine WL.cellS (zs := [.int .i64 0, .slice none 0 0]) (by decide) (by simp [Value.oneCell']) (WL.storeW tyV (OpD.t rfl) (OpD.t rfl) rfl rfl ?_); dsimp only [setD, z0, z1]) |  (refine WL.perm (List.Perm.swap _ _ _) (WL.cellS (zs := [.int .i64 0, .slice none 0 0]) (by decide) (by simp [Value.oneCell']) (WL.storeW tyV (OpD.t rfl) (OpD.t rfl) rfl rfl ?_)); dsimp only [setD, z0, z1]))); all_goals (first | ((repeat clear hK); (repeat clear Kx))))
      all_goals exact ⟨rfl, (_, _), (by first | exact List.Perm.refl _ | exact List.Perm.swap _ _ _), by ((try dsimp only [upds, z0, z1]); repeat (first | exact LeF.nil | refine LeF.co (k := ?_)))⟩
    obtain ⟨v7, b7⟩ := x
    refine ⟨?_⟩
    simp only [upds, z0, z1]
    (repeat' (first | ((first | apply WL.opN | apply WD.opN); exact yF; dsimp only [setD, z0, z1]) | refine WL.nil ?_ | refine WC.seqK fun Kx hK => ?_ | (refine hK _ _ ?_; clear hK) | refine WC.region ?_ | refine WC.block ?_))
    all_goals try (exfalso; first | contradiction | omega)
    (refine WC.loopU (X := Nat × Value × List (List Int)) (fun x => [(55, dI (x.1 : Int)), (2, dA), (8, dA), (9, dA), (10, dA), (11, dA), (56, dA), (57, dA), (58, dA), (59, dA), (60, dA), (61, dA), (62, dA), (63, dA), (64, dA), (65, dA), (66, dA), (67, dA), (68, dA), (69, dA), (70, dA), (71, dA), (72, dA), (73, dA), (74, dA), (75, dA), (76, dA), (77, dA), (78, dA), (79, dA), (80, dA), (81, dA), (82, dA), (83, dA)]) (fun x => ([hStr b7 24 [dI (N : Int), dX x.2.1], hRow x.2.1 25 Ints x.2.2])) (fun x => n - x.1) (fun x => x.1 ≤ n ∧ WfL N x.2.2 ∧ x.2.2.length ≤ 40 + x.1 ∧ (allF N x.2.2 []).length + x.1 = n ∧ (∀ m ∈ allF N x.2.2 [], m ∈ allF N l [])) (0, v7, l) ?start ?frame0 ?objs0 ?round)
    case start => exact ⟨Nat.zero_le _, hw, by omega, by omega, fun m hm => hm⟩
    case frame0 => ((try dsimp only [upds, z0, z1]); repeat (first | exact LeF.nil | refine LeF.co (k := ?_)))
    case objs0 => rfl
    case round =>
      rintro ⟨i, vo, L⟩ ⟨g1, g2, g3, g4, g5⟩
      simp only at g1 g2 g3 g4 g5
      dsimp only [upds, z0, z1]
      have hckL : checkI (N : Int) L = 0 := check_of (by omega) g2 (by omega)
      by_cases hil : i < n
      · have hlti : (i : Int) < (n : Int) := by omega
        have hne : allF N L [] ≠ [] := fun q => by rw [q] at g4; simp at g4; omega
        have hBS := blockS_c N L vo (by omega) hckL hne
        have h24 : (L.length + 1) * 24 ≤ 140737488355328 := by omega
        (repeat' (first |  (refine WC.only 11 (Halt.go ?_)) | ((first | apply WL.opN | apply WD.opN); exact yF; dsimp only [setD, z0, z1]) | refine WL.nil ?_ | refine WC.seqK fun Kx hK => ?_ | (refine hK _ _ ?_; clear hK) | refine WC.region ?_ |  (refine WL.perm (List.Perm.swap _ _ _) (WL.callC (hp1 := [hRow vo 25 Ints L]) (caps := []) hBS Try.call16 OpD.f (ArgsD.cons (OpD.t rfl) ArgsD.nil) ?_); rintro d' hp2 ⟨⟨⟨vm, m⟩, hm⟩, rfl, rfl⟩; dsimp only [setD, z0, z1, List.cons_append, List.nil_append]) |  (refine WL.keep1 (s := 61) rfl (WL.alloc (dst := some 9) (T := 25) tzIs (shape_X rfl) fun b9 => ?_); dsimp only [setD, z0, z1]) |  (refine WL.storeF tySi rfl (OpD.t rfl) shape_A ?_; dsimp only [setD, z0, z1]) | ((first | apply WL.opG | apply WD.op); (focus (first | exact wN | (apply SYG.yes; (exact wY); ((first | (exact SY.loadW tyV (OpD.t rfl) (mAt 0 rfl) (by decide) rfl) | ((first | apply SY.move | apply SY.assign | apply SY.lss | apply SY.gtr | apply SY.eql | apply SY.neq | apply SY.not) <;> (exact oD)) | (apply SY.extract; (exact oD); rfl) | fail); all_goals infer_instance)))); dsimp only [setD, z0, z1]) | (apply WC.condD; (exact oD); all_goals (intro h; try exact xD)) | refine WC.skip ?_ | refine WC.block ?_))
        all_goals try (exfalso; first | contradiction | omega)
        refine ⟨?_⟩
        have hm0 : m ∈ allF N L [] := hm
        clear hm
        obtain ⟨m1, m2, _⟩ := model_mem.1 hm0
        have hany : (allF N l []).any (fun v => decide (v = m)) = true := List.any_eq_true.2 ⟨m, g5 m hm0, decide_eq_true rfl⟩
        have hct := cntR_p (allF N l []) (fun v => decide (v = m))
        rw [hany] at hct
        have hMk := fun v : List Int => blockP_p m v
        have hmr : ∀ x ∈ m, x ≠ 0 ∧ x.natAbs ≤ N := fun x hx => by
          obtain ⟨j, hj⟩ := List.mem_iff_getElem?.1 hx
          have := (List.getElem?_eq_some_iff.1 hj).1
          have := m2 j x hj
          omega
        have hng := negated_p N (by omega) m hmr (by omega)
        ((repeat' (first |  (refine WC.drawM (fun hp' => hStr b7 24 [dI (N : Int), dX vo] ∈ hp') 6 2 [(0, false), (1, false), (2, false), (3, false), (4, false), (5, true)] [true, true, true, true, true, true, false, false] (by kernel_rfl) (by kernel_rfl) (by kernel_rfl) rfl (mAt 1 rfl) ?_) |  (first | refine WA.one (S := [true, true, true, true, true, true, false, false]) (i := 6) (by kernel_rfl) rfl ?_ | refine WA.one (S := [true, true, true, true, true, true, true, false]) (i := 7) (by kernel_rfl) rfl ?_ | refine WA.nil (S := [true, true, true, true, true, true, true, true]) (by kernel_rfl) ?_) |  (refine WM.writeL rfl (SW.app1 elSi (R := Ints) (_gR := inferInstance) (OpD.t rfl) (OpD.t rfl) (by decide) h24) (fun _ => mAt 1 rfl) fun vo2 => ?_; dsimp only [setD, z0, z1]) | (refine WM.nil ?_) | (apply WM.readL rfl; (focus (intro c hcc; apply SYG.yes; (exact want_none rfl); ((first | (apply SY.call (hng) Try.call31; (exact aD)) | (refine SY.fldS strC (OpD.t rfl) (by decide)) | (apply SY.loadS; exact tySS; exact OpD.t rfl; (first | exact hcc | exact mAt 1 rfl); rfl) | (exact SY.build1' elSi (R := Ints) (_gR := inferInstance) (els := [ngI m]) (ElsD.cn (OpD.t rfl) ElsD.nl) rfl rfl (fun _ => shape_A) (by simp)) | (apply SY.load; (exact tD); (exact oD)) | fail); all_goals infer_instance))); dsimp only [setD, z0, z1]) | ((first | apply WL.opN | apply WD.opN); exact yF; dsimp only [setD, z0, z1]) | refine WL.nil ?_ | (refine hK _ _ ?_; clear hK) | refine WC.region ?_ |  (refine WL.rowIs (mAt 0 rfl) fun hvv => WL.perm (List.Perm.swap _ _ _) ?_; refine WL.ofSW (SW.storeS tySS (OpD.t rfl) (OpD.t rfl) (shape_X hvv) (by simp)) fun _ => ?_; dsimp only [setD, z0, z1]) | ((first | apply WL.opG | apply WD.op); (focus (first | exact wN | (apply SYG.yes; (exact wY); ((first | (apply SY.makeFun (A := fun v : List Int => [dS Ints v]) (r := fun v => dB (decide (v = m))) Try.call34 (hMk) (fun _ => bare_B); (exact aD)) | (apply SY.call (hct) Try.call33; (exact aD)) | (refine SY.fldS strC (OpD.t rfl) (by decide)) | ((first | apply SY.move | apply SY.assign | apply SY.lss | apply SY.gtr | apply SY.eql | apply SY.neq | apply SY.not) <;> (exact oD)) | ((first | apply SY.add) <;> first | exact oD | omega) | (apply SY.pickF; (exact oD); (with_reducible rfl); (exact oD)) | fail); all_goals infer_instance)))); dsimp only [setD, z0, z1]) | ((first | refine WL.caseP rfl rfl rfl (fun h => ?_) (fun h => ?_) | refine WL.caseN rfl rfl rfl (fun h => ?_) (fun h => ?_) | refine WL.caseB rfl rfl rfl (fun h => ?_) (fun h => ?_) | refine WD.caseP rfl rfl rfl (fun h => ?_) (fun h => ?_) | refine WD.caseN rfl rfl rfl (fun h => ?_) (fun h => ?_) | refine WD.caseB rfl rfl rfl (fun h => ?_) (fun h => ?_)) <;> (first | (exfalso; first | omega | contradiction) | (dsimp only [z0, z1]))) | (apply WC.condNB; (exact oD); all_goals (intro h; try exact xD)) | refine WC.skip ?_ | refine ThenD.n ?_)); all_goals (first | ((repeat clear hK); (repeat clear Kx))))
        all_goals try (exfalso; first | contradiction | omega)
        (refine ⟨(i + 1, vo2, L ++ [ngI m]), ?_, by first | omega | (simp only; omega), rfl, ?_⟩; rotate_left; ((try dsimp only [upds, z0, z1]); repeat (first | exact LeF.nil | refine LeF.co (k := ?_))); (try dsimp only))
        have hbl := block_len hm0
        have hba := block_all (l := L) m1 m2
        have e : L ++ [negM m] = L ++ [ngI m] := rfl
        rw [e] at hbl hba
        refine ⟨by omega, fun d hd => ?_, by rw [List.length_append, List.length_singleton]; omega, by omega, fun x hx => ?_⟩
        · rcases List.mem_append.1 hd with hd | hd
          · exact g2 d hd
          · rw [List.mem_singleton.1 hd]; exact negM_wf m1 m2
        · rw [hba] at hx
          exact g5 x (List.mem_filter.1 hx).1
      · have hlti : ¬ (i : Int) < (n : Int) := by omega
        obtain rfl : i = n := by omega
        have h0 : allF N L [] = [] := List.length_eq_zero_iff.1 (by omega)
        have hs := solve_c N L (by omega) hckL
        (repeat' (first |  (refine WC.only 15 (Halt.go ?_)) | refine WL.nil ?_ | refine WC.seqK fun Kx hK => ?_ | (refine hK _ _ ?_; clear hK) | (refine Kont.skip ?_; clear hK) | refine WC.region ?_ | ((first | apply WL.opG | apply WD.op); (focus (first | exact wN | (apply SYG.yes; (exact wY); ((first | ((first | apply SY.move | apply SY.assign | apply SY.lss | apply SY.gtr | apply SY.eql | apply SY.neq | apply SY.not) <;> (exact oD)) | fail); all_goals infer_instance)))); dsimp only [setD, z0, z1]) | (apply WC.condD; (exact oD); all_goals (intro h; try exact xD)) | refine WC.exit ?_))
        all_goals try (exfalso; first | contradiction | omega)
        refine ⟨WC.keepS1 (k := 1) rfl (WC.freezeQ (t := 7) rfl ?_)⟩
        dsimp only [z0, z1]
        (repeat' (first |  (refine WC.only 16 (Halt.go ?_)) | ((first | apply WL.opN | apply WD.opN); exact yF; dsimp only [setD, z0, z1]) | refine WL.nil ?_ | refine WC.seqK fun Kx hK => ?_ | (refine hK _ _ ?_; clear hK) | refine WC.region ?_ |  (refine WL.callC (hp1 := []) (caps := []) hs Try.call16 OpD.f (ArgsD.cons (OpD.t rfl) ArgsD.nil) ?_; rintro d' hp2 ⟨rfl, e2, e3, e4, e5, rfl, v, m, p, rfl, rfl, rfl, rfl, hR1⟩; dsimp only [setD, z0, z1, List.nil_append]) | ((first | apply WL.opG | apply WD.op); (focus (first | exact wN | (apply SYG.yes; (exact wY); ((first | (apply SY.extract; (exact oD); rfl) | fail); all_goals infer_instance)))); dsimp only [setD, z0, z1])))
        all_goals try (exfalso; first | contradiction | omega)
        refine ⟨?_⟩
        rcases hR1.is with ⟨_, _, q⟩ | ⟨rfl, _, _, _, hRf, hpl⟩
        · rw [h0] at q; cases q
        · have hp2 : 2 ^ (2 * N + 1) ≤ 2 ^ 11 := Nat.pow_le_pow_right (by decide) (by omega)
          have hp3 : (2 : Nat) ^ 11 = 2048 := by decide
          have hpn : ¬ (p.length : Int) > 3000 := by omega
          have hv1 := verify43_p (N : Int) L p (irr_wf (by omega) g2)
          rw [refut_verify (by omega) hRf hckL (by omega)] at hv1
          clear hR1 hp2 hpl
          ((repeat' (first | ((first | apply WL.opN | apply WD.opN); exact yF; dsimp only [setD, z0, z1]) | refine WL.nil ?_ | refine WC.seqK fun Kx hK => ?_ | (refine hK _ _ ?_; clear hK) | refine WC.region ?_ | ((first | apply WL.opG | apply WD.op); (focus (first | exact wN | (apply SYG.yes; (exact wY); ((first | (apply SY.call (hv1) Try.call13; (exact aD)) | (apply SY.call (haw) Try.call21; (exact aD)) | ((first | apply SY.move | apply SY.assign | apply SY.lss | apply SY.gtr | apply SY.eql | apply SY.neq | apply SY.not) <;> (exact oD)) | (apply SY.len; (exact oD); (exact nD); (exact uD)) | (apply SY.pickT; (exact oD); (with_reducible rfl); (exact oD)) | (apply SY.pickF; (exact oD); (with_reducible rfl); (exact oD)) | (apply SY.extract; (exact oD); rfl) | fail); all_goals infer_instance)))); dsimp only [setD, z0, z1]) | ((first | refine WL.caseP rfl rfl rfl (fun h => ?_) (fun h => ?_) | refine WL.caseN rfl rfl rfl (fun h => ?_) (fun h => ?_) | refine WL.caseB rfl rfl rfl (fun h => ?_) (fun h => ?_) | refine WD.caseP rfl rfl rfl (fun h => ?_) (fun h => ?_) | refine WD.caseN rfl rfl rfl (fun h => ?_) (fun h => ?_) | refine WD.caseB rfl rfl rfl (fun h => ?_) (fun h => ?_)) <;> (first | (exfalso; first | omega | contradiction) | (dsimp only [z0, z1]))) | (apply WC.condD; (exact oD); all_goals (intro h; try exact xD)) | (apply WC.condN; (exact oD); all_goals (intro h; try exact xD)) | refine WC.skip ?_ | refine WC.ret ?_)); all_goals (first | ((repeat clear hK); (repeat clear Kx))))
          all_goals try (exfalso; first | contradiction | omega)
          (refine ⟨trivial, _, rfl, ?_⟩; exact fD)
end Go.Proofs.Ytpiidgcljlalmaa
