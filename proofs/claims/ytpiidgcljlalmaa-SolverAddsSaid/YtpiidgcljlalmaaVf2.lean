/- Part 2: walks by contracts, and plain laws. -/
import Derived.Test.YtpiidgcljlalmaaVf1
set_option linter.unusedVariables false
set_option linter.unusedSimpArgs false
set_option linter.unusedSectionVars false
namespace Go.Proofs.Ytpiidgcljlalmaa
open Go.RowKit
theorem CallC.under {P : Program} {f : FuncId} {ds : List Dat} {V : Nat} {l : List (List Int)} {a : List Int} (h : CallC P f ds [] (fun d hp2 => hp2 = [] ∧ ∃ e2 e3 e4 e5, d = dT [e2, e3, e4, e5] ∧ ∃ v m c, e2 = dI v ∧ e3 = dS Ints m ∧ e4 = dS Ints c ∧ e5 = dI 0 ∧ UnderR V l a v m c)) :
    CallC P f ds [] (fun d hp2 => ∃ x : {x : Int × List Int × List Int // UnderR V l a x.1 x.2.1 x.2.2}, d = dT [dI x.1.1, dS Ints x.1.2.1, dS Ints x.1.2.2, dI 0] ∧ hp2 = []) :=
  h.monoK fun d hp2 ⟨h1, e2, e3, e4, e5, h2, v, m, c, q1, q2, q3, q4, q5⟩ => ⟨⟨(v, m, c), q5⟩, by subst q1 q2 q3 q4; exact h2, h1⟩
theorem all_le43 (l : List (List Int)) (V : Nat) : (allF V l []).length ≤ 2 ^ V := by
  rw [all_filter V (l := l)]
  exact Nat.le_trans (List.length_filter_le _ _) (Nat.le_of_eq (all_pow V [] fun c hc => by cases hc))
set_option linter.unusedSimpArgs false
set_option linter.unusedVariables false
set_option maxHeartbeats 2000000
set_option maxRecDepth 100000
set_option maxHeartbeats 16000000 in
theorem adds_p (V : Int) (l : List (List Int)) (c : List Int) (hr : IRR l) : Fn Try.prog 6 [dS Cls (V, l), dS Ints c] (dB true) := by
  have haw := awake_p
  have hg := good43_p V l 8
  cases hq : (fewB V l && (decide (checkI V l = 0) && decide (V ≤ 8))) with
  | false =>
    rw [hq] at hg
    (refine Fn.intro1 Try.func6 rfl rfl ?_; simp only [Try.ntmps6, List.length_cons, List.length_nil, Nat.reduceAdd, Nat.reduceSub, List.replicate_succ, List.replicate_zero, List.cons_append, List.nil_append])
    ((repeat' (first | ((first | apply WL.opN | apply WD.opN); exact yF; dsimp only [setD, z0, z1]) | refine WL.nil ?_ | refine WC.seqK fun Kx hK => ?_ | (refine hK _ _ ?_; clear hK) | refine WC.region ?_ | ((first | apply WL.opG | apply WD.op); (focus (first | exact wN | (apply SYG.yes; (exact wY); ((first | (apply SY.call (hg) Try.call26; (exact aD)) | (apply SY.call (haw) Try.call21; (exact aD)) | ((first | apply SY.move | apply SY.assign | apply SY.lss | apply SY.gtr | apply SY.eql | apply SY.neq | apply SY.not) <;> (exact oD)) | (apply SY.pickT; (exact oD); (with_reducible rfl); (exact oD)) | (apply SY.box; (exact oD); (exact hD)) | fail); all_goals infer_instance)))); dsimp only [setD, z0, z1]) | ((first | refine WL.caseP rfl rfl rfl (fun h => ?_) (fun h => ?_) | refine WL.caseN rfl rfl rfl (fun h => ?_) (fun h => ?_) | refine WL.caseB rfl rfl rfl (fun h => ?_) (fun h => ?_) | refine WD.caseP rfl rfl rfl (fun h => ?_) (fun h => ?_) | refine WD.caseN rfl rfl rfl (fun h => ?_) (fun h => ?_) | refine WD.caseB rfl rfl rfl (fun h => ?_) (fun h => ?_)) <;> (first | (exfalso; first | omega | contradiction) | (dsimp only [z0, z1]))) | (apply WC.condT; (exact oD); (with_reducible rfl)) | refine WC.ret ?_ | refine ThenD.r ?_)); all_goals (first | ((repeat clear hK); (repeat clear Kx))))
    all_goals try (exfalso; first | contradiction | omega)
    (refine ⟨trivial, _, rfl, ?_⟩; exact fD)
  | true =>
    rw [hq] at hg
    simp only [Bool.and_eq_true, decide_eq_true_eq] at hq
    obtain ⟨hfw, hck, hV8⟩ := hq
    obtain ⟨N, rfl⟩ : ∃ N : Nat, V = (N : Int) := ⟨V.toNat, by have := (checkI_zero hck).1; omega⟩
    have hcl1 := clause43_p N (by omega) c
    by_cases hcz : clauseI (N : Int) none c = 0
    · rw [hcz] at hcl1
      have hc : WfC N c := (clauseI_iff (by omega)).1 hcz
      have hcn : c.length ≤ N := S43.trail_len hc.rng (hc.inc.imp fun h => by omega)
      have hll := few43_len hfw hck
      have hw : WfL N l := (clausesI_iff (by omega)).1 (checkI_zero hck).2.2.2
      have hwA : WfL N (l ++ [c]) := fun d hd => by
        rcases List.mem_append.1 hd with hd | hd
        · exact hw d hd
        · rw [List.mem_singleton.1 hd]; exact hc
      have hwB : WfL N (l ++ negC c) := fun d hd => by
        rcases List.mem_append.1 hd with hd | hd
        · exact hw d hd
        · obtain ⟨x, hx, rfl⟩ := List.mem_map.1 hd
          have := hc.rng x hx
          exact wf_one (by omega)
      have hlB : (l ++ negC c).length ≤ 32768 := by rw [List.length_append, List.length_map]; omega
      have hn1 := count43_p N l (by omega) hck
      have hn2 := count43_p N (l ++ [c]) (by omega) (check_of (by omega) hwA (by simp; omega))
      have hn3 := count43_p N (l ++ negC c) (by omega) (check_of (by omega) hwB hlB)
      have himp := implies_p N l c (by omega) hck hc
      have hng := negated_p N (by omega) c hc.rng (by omega)
      have hun := (under_c N l (ngI c) (by omega) hck (asn_neg hc)).under
      have hmore : (allF N l []).length = (allF N (l ++ [c]) []).length + (allF N (l ++ negC c) []).length := all_more hc.rng
      have himn := imp_none (l := l) hc
      have hup : ∀ x : {x : Int × List Int × List Int // UnderR N l (ngI c) x.1 x.2.1 x.2.2}, (x.1.1 = 1 ∧ 0 < (allF N (l ++ negC c) []).length) ∨ (x.1.1 = 2 ∧ (allF N (l ++ negC c) []).length = 0) := fun x => under_pos x.2
      have hb1 := all_le43 (l ++ [c]) N
      have hb2 := all_le43 (l ++ negC c) N
      have hpw : 2 ^ N ≤ 256 := Nat.le_trans (Nat.pow_le_pow_right (by decide) (show N ≤ 8 by omega)) (by decide)
      rw [himn] at himp
      generalize (allF N l []).length = n1 at hn1 hmore
      generalize (allF N (l ++ [c]) []).length = n2 at hn2 hmore hb1
      generalize (allF N (l ++ negC c) []).length = n3 at hn3 hmore hb2 himp hup
      have hcR := cloneR_c l (by omega)
      clear himn hwA hwB
      (refine Fn.intro1 Try.func6 rfl rfl ?_; simp only [Try.ntmps6, List.length_cons, List.length_nil, Nat.reduceAdd, Nat.reduceSub, List.replicate_succ, List.replicate_zero, List.cons_append, List.nil_append])
      (repeat' (first |  (refine WC.joinX (α := Value × Nat) 3 (fun x => [(32, dA), (33, dA), (34, dA), (35, dA), (36, dA), (37, dA), (38, dA), (39, dA), (40, dA), (5, dX (.pointer (some ⟨x.2, 0, none⟩)))]) (fun x => [hStr x.2 24 [dI (N : Int), dX x.1], hRow x.1 25 Ints (l ++ [c])]) ?_ fun x => ?_) | ((first | apply WL.opN | apply WD.opN); exact yF; dsimp only [setD, z0, z1]) | refine WL.nil ?_ | refine WC.seqK fun Kx hK => ?_ | (refine hK _ _ ?_; clear hK) | refine WC.region ?_ | ((first | apply WL.opG | apply WD.op); (focus (first | exact wN | (apply SYG.yes; (exact wY); ((first | (apply SY.call (hg) Try.call26; (exact aD)) | (apply SY.call (hcl1) Try.call27; (exact aD)) | ((first | apply SY.move | apply SY.assign | apply SY.lss | apply SY.gtr | apply SY.eql | apply SY.neq | apply SY.not) <;> (exact oD)) | (apply SY.load; (exact tD); (exact oD)) | (apply SY.fldP0 clT; exact OpD.t rfl) | (apply SY.fldP1 clT; exact OpD.t rfl) | (apply SY.pickF; (exact oD); (with_reducible rfl); (exact oD)) | (apply SY.box; (exact oD); (exact hD)) | fail); all_goals infer_instance)))); dsimp only [setD, z0, z1]) | ((first | refine WL.caseP rfl rfl rfl (fun h => ?_) (fun h => ?_) | refine WL.caseN rfl rfl rfl (fun h => ?_) (fun h => ?_) | refine WL.caseB rfl rfl rfl (fun h => ?_) (fun h => ?_) | refine WD.caseP rfl rfl rfl (fun h => ?_) (fun h => ?_) | refine WD.caseN rfl rfl rfl (fun h => ?_) (fun h => ?_) | refine WD.caseB rfl rfl rfl (fun h => ?_) (fun h => ?_)) <;> (first | (exfalso; first | omega | contradiction) | (dsimp only [z0, z1]))) | (apply WC.condN; (exact oD); all_goals (intro h; try exact xD)) | refine WC.skip ?_))
      all_goals try (exfalso; first | contradiction | omega)
      · refine ⟨?_⟩
        ((repeat' (first |  (refine WC.drawT (fun _ => True) 10 1 4 [0, 1, 2, 3, 5, 6] [true, true, true, true, false, true, true, false, false, false, false] [true, true, true, true, true, true, true, true, true, true, false] (by kernel_rfl) (by kernel_rfl) (by kernel_rfl) rfl (trivial) ?_) | (refine WRd.nil ?_) | (apply WRd.readL rfl; (focus (intro c hcc; apply SYG.yes; (exact want_none rfl); ((first | ((first | apply SY.move | apply SY.assign | apply SY.lss | apply SY.gtr | apply SY.eql | apply SY.neq | apply SY.not) <;> (exact oD)) | (apply SY.load; (exact tD); (exact oD)) | (apply SY.fldP0 clT; exact OpD.t rfl) | (apply SY.fldP1 clT; exact OpD.t rfl) | (apply SY.build1'; (exact eD); ((try simp only [List.map_cons, List.map_nil]); (repeat (first | exact ElsD.nl | (apply ElsD.cn; (first | exact OpD.t rfl | exact OpD.i | exact OpD.b | exact OpD.tle rfl (by first | exact Dat.le_nil | exact Dat.le_nilK (by decide)) | exact ⟨Dat.le_nil⟩ | exact ⟨Dat.le_nilK (by decide)⟩))))); rfl; rfl; (intro _; first | exact shape_K | exact shape_I | exact shape_A | exact shape_B); (exact (by simp))) | fail); all_goals infer_instance))); dsimp only [setD, z0, z1]))); all_goals (first | ((repeat clear hK); (repeat clear Kx))))
        have h24 : (l.length + 1) * 24 ≤ 140737488355328 := by omega
        refine WT.two (i := 4) (j := 9) (by kernel_rfl) rfl (SW.callC (P := Try.prog) (hp := []) (hp1 := []) (caps := []) (H := fun v : Value => [hRow v 25 Ints l]) (D := fun v => dX v) hcR Try.call28 OpD.f (ArgsD.cons (OpD.t rfl) ArgsD.nil) (fun _ _ ⟨v, h1, h2⟩ => ⟨v, h1, h2⟩)) (fun _ => trivial) rfl (SW.alloc tzV shape_Z43) (fun _ => trivial) (fun v => ?_) (fun b => ?_) <;> dsimp only [setD, z0, z1, List.cons_append, List.nil_append]
        rotate_left 1
        refine WT.one (i := 4) (by kernel_rfl) rfl (SW.callC (P := Try.prog) (hp := [hCell b 24 2 true (dX (.agg #[.int .i64 0, .slice none 0 0]))]) (hp1 := []) (caps := []) (H := fun v : Value => [hRow v 25 Ints l]) (D := fun v => dX v) hcR Try.call28 OpD.f (ArgsD.cons (OpD.t rfl) ArgsD.nil) (fun _ _ ⟨v, h1, h2⟩ => ⟨v, h1, h2⟩)) (fun _ => trivial) (fun v => ?_); dsimp only [setD, z0, z1, List.cons_append, List.nil_append]
        refine WT.one (i := 7) (by kernel_rfl) rfl (SW.app1 elSi (R := Ints) (_gR := inferInstance) (OpD.t rfl) (OpD.t rfl) (by decide) h24) (fun _ => trivial) (fun v2 => ?_); dsimp only [setD, z0, z1, List.cons_append, List.nil_append]
        refine WT.one (i := 8) (by kernel_rfl) rfl (SW.mkO (R := Ints) (_gR := inferInstance) (mAt 0 rfl) (OpD.t rfl) (OpD.t rfl)) (fun _ => trivial) (fun _ => ?_); dsimp only [setD, z0, z1, List.cons_append, List.nil_append]
        refine WT.done (by kernel_rfl) ?_
        rotate_left 1
        refine WT.two (i := 7) (j := 9) (by kernel_rfl) rfl (SW.app1 elSi (R := Ints) (_gR := inferInstance) (OpD.t rfl) (OpD.t rfl) (by decide) h24) (fun _ => trivial) rfl (SW.alloc tzV shape_Z43) (fun _ => trivial) (fun v2 => ?_) (fun b => ?_) <;> dsimp only [setD, z0, z1, List.cons_append, List.nil_append]
        rotate_left 1
        refine WT.one (i := 7) (by kernel_rfl) rfl (SW.at 1 rfl fun q => (SW.app1 elSi (R := Ints) (_gR := inferInstance) (OpD.t rfl) (OpD.t rfl) (by decide) h24)) (fun _ => trivial) (fun v2 => ?_); dsimp only [setD, z0, z1, List.cons_append, List.nil_append]
        refine WT.one (i := 8) (by kernel_rfl) rfl (SW.mkO (R := Ints) (_gR := inferInstance) (mAt 1 rfl) (OpD.t rfl) (OpD.t rfl)) (fun _ => trivial) (fun _ => ?_); dsimp only [setD, z0, z1, List.cons_append, List.nil_append]
        refine WT.done (by kernel_rfl) ?_
        rotate_left 2
        refine WT.two (i := 8) (j := 9) (by kernel_rfl) rfl (SW.mkO (R := Ints) (_gR := inferInstance) (mAt 0 rfl) (OpD.t rfl) (OpD.t rfl)) (fun _ => trivial) rfl (SW.alloc tzV shape_Z43) (fun _ => trivial) (fun _ => ?_) (fun b => ?_) <;> dsimp only [setD, z0, z1, List.cons_append, List.nil_append]
        refine WT.one (i := 9) (by kernel_rfl) rfl (SW.alloc tzV shape_Z43) (fun _ => trivial) (fun b => ?_); dsimp only [setD, z0, z1, List.cons_append, List.nil_append]
        refine WT.done (by kernel_rfl) ?_
        rotate_left 1
        refine WT.one (i := 8) (by kernel_rfl) rfl (SW.mkO (R := Ints) (_gR := inferInstance) (mAt 1 rfl) (OpD.t rfl) (OpD.t rfl)) (fun _ => trivial) (fun _ => ?_); dsimp only [setD, z0, z1, List.cons_append, List.nil_append]
        refine WT.done (by kernel_rfl) ?_
        all_goals
          ((repeat' (first |  (first | refine WA.one (S := [true, true, true, true, true, true, true, true, true, true, false]) (i := 10) (by kernel_rfl) rfl ?_ | refine WA.nil (S := [true, true, true, true, true, true, true, true, true, true, true]) (by kernel_rfl) ?_) | refine WL.nil ?_ |  (refine WL.cellS (zs := [.int .i64 0, .slice none 0 0]) (by decide) (by simp [Value.oneCell']) (WL.storeW tyV (OpD.t rfl) (OpD.t rfl) rfl rfl ?_); dsimp only [setD, z0, z1]) |  (refine WL.perm (List.Perm.swap _ _ _) (WL.cellS (zs := [.int .i64 0, .slice none 0 0]) (by decide) (by simp [Value.oneCell']) (WL.storeW tyV (OpD.t rfl) (OpD.t rfl) rfl rfl ?_)); dsimp only [setD, z0, z1]))); all_goals (first | ((repeat clear hK); (repeat clear Kx))))
        all_goals exact ⟨rfl, (_, _), (by first | exact List.Perm.refl _ | exact List.Perm.swap _ _ _), by ((try dsimp only [upds, z0, z1]); repeat (first | exact LeF.nil | refine LeF.co (k := ?_)))⟩
      · obtain ⟨v5, b5⟩ := x
        refine ⟨?_⟩
        simp only [upds, z0, z1]
        refine WC.keepS1 (k := 1) rfl (WC.freezeQ (t := 5) rfl ?_)
        dsimp only [z0, z1]
        (repeat' (first |  (refine WC.joinX (α := Value × Nat) 4 (fun x => [(41, dA), (42, dA), (43, dA), (44, dA), (45, dA), (46, dA), (6, dX (.pointer (some ⟨x.2, 0, none⟩)))]) (fun x => [hStr x.2 24 [dI (N : Int), dX x.1], hRow x.1 25 Ints l]) ?_ fun x => ?_)))
        all_goals try (exfalso; first | contradiction | omega)
        · refine ⟨?_⟩
          ((repeat' (first |  (refine WC.drawT (fun _ => True) 7 1 3 [0, 1, 2, 3] [true, true, true, true, false, false, false, false] [true, true, true, true, true, true, true, false] (by kernel_rfl) (by kernel_rfl) (by kernel_rfl) rfl (trivial) ?_) | (refine WRd.nil ?_) | (apply WRd.readL rfl; (focus (intro c hcc; apply SYG.yes; (exact want_none rfl); ((first | (apply SY.load; (exact tD); (exact oD)) | (apply SY.fldP0 clT; exact OpD.t rfl) | (apply SY.fldP1 clT; exact OpD.t rfl) | fail); all_goals infer_instance))); dsimp only [setD, z0, z1]))); all_goals (first | ((repeat clear hK); (repeat clear Kx))))
          refine WT.two (i := 4) (j := 6) (by kernel_rfl) rfl (SW.callC (P := Try.prog) (hp := []) (hp1 := []) (caps := []) (H := fun v : Value => [hRow v 25 Ints l]) (D := fun v => dX v) hcR Try.call28 OpD.f (ArgsD.cons (OpD.t rfl) ArgsD.nil) (fun _ _ ⟨v, h1, h2⟩ => ⟨v, h1, h2⟩)) (fun _ => trivial) rfl (SW.alloc tzV shape_Z43) (fun _ => trivial) (fun v => ?_) (fun b => ?_) <;> dsimp only [setD, z0, z1, List.cons_append, List.nil_append]
          rotate_left 1
          refine WT.one (i := 4) (by kernel_rfl) rfl (SW.callC (P := Try.prog) (hp := [hCell b 24 2 true (dX (.agg #[.int .i64 0, .slice none 0 0]))]) (hp1 := []) (caps := []) (H := fun v : Value => [hRow v 25 Ints l]) (D := fun v => dX v) hcR Try.call28 OpD.f (ArgsD.cons (OpD.t rfl) ArgsD.nil) (fun _ _ ⟨v, h1, h2⟩ => ⟨v, h1, h2⟩)) (fun _ => trivial) (fun v => ?_); dsimp only [setD, z0, z1, List.cons_append, List.nil_append]
          refine WT.one (i := 5) (by kernel_rfl) rfl (SW.mkO (R := Ints) (_gR := inferInstance) (mAt 0 rfl) (OpD.t rfl) (OpD.t rfl)) (fun _ => trivial) (fun _ => ?_); dsimp only [setD, z0, z1, List.cons_append, List.nil_append]
          refine WT.done (by kernel_rfl) ?_
          rotate_left 1
          refine WT.two (i := 5) (j := 6) (by kernel_rfl) rfl (SW.mkO (R := Ints) (_gR := inferInstance) (mAt 0 rfl) (OpD.t rfl) (OpD.t rfl)) (fun _ => trivial) rfl (SW.alloc tzV shape_Z43) (fun _ => trivial) (fun _ => ?_) (fun b => ?_) <;> dsimp only [setD, z0, z1, List.cons_append, List.nil_append]
          refine WT.one (i := 6) (by kernel_rfl) rfl (SW.alloc tzV shape_Z43) (fun _ => trivial) (fun b => ?_); dsimp only [setD, z0, z1, List.cons_append, List.nil_append]
          refine WT.done (by kernel_rfl) ?_
          rotate_left 1
          refine WT.one (i := 5) (by kernel_rfl) rfl (SW.mkO (R := Ints) (_gR := inferInstance) (mAt 1 rfl) (OpD.t rfl) (OpD.t rfl)) (fun _ => trivial) (fun _ => ?_); dsimp only [setD, z0, z1, List.cons_append, List.nil_append]
          refine WT.done (by kernel_rfl) ?_
          all_goals
            ((repeat' (first |  (first | refine WA.one (S := [true, true, true, true, true, true, true, false]) (i := 7) (by kernel_rfl) rfl ?_ | refine WA.nil (S := [true, true, true, true, true, true, true, true]) (by kernel_rfl) ?_) | refine WL.nil ?_ |  (refine WL.cellS (zs := [.int .i64 0, .slice none 0 0]) (by decide) (by simp [Value.oneCell']) (WL.storeW tyV (OpD.t rfl) (OpD.t rfl) rfl rfl ?_); dsimp only [setD, z0, z1]) |  (refine WL.perm (List.Perm.swap _ _ _) (WL.cellS (zs := [.int .i64 0, .slice none 0 0]) (by decide) (by simp [Value.oneCell']) (WL.storeW tyV (OpD.t rfl) (OpD.t rfl) rfl rfl ?_)); dsimp only [setD, z0, z1]))); all_goals (first | ((repeat clear hK); (repeat clear Kx))))
          all_goals exact ⟨rfl, (_, _), (by first | exact List.Perm.refl _ | exact List.Perm.swap _ _ _), by ((try dsimp only [upds, z0, z1]); repeat (first | exact LeF.nil | refine LeF.co (k := ?_)))⟩
        obtain ⟨v6, b6⟩ := x
        refine ⟨?_⟩
        simp only [upds, z0, z1]
        (repeat' (first | ((first | apply WL.opN | apply WD.opN); exact yF; dsimp only [setD, z0, z1]) | refine WL.nil ?_ | refine WC.seqK fun Kx hK => ?_ | (refine hK _ _ ?_; clear hK) | refine WC.region ?_ | ((first | apply WL.opG | apply WD.op); (focus (first | exact wN | (apply SYG.yes; (exact wY); ((first | (apply SY.len; (exact oD); (exact nD); (exact uD)) | fail); all_goals infer_instance)))); dsimp only [setD, z0, z1]) | refine WC.block ?_))
        all_goals try (exfalso; first | contradiction | omega)
        (refine WC.loopU (X := Nat × Value) (fun x => [(49, dI (x.1 : Int)), (8, dA), (50, dA), (51, dA), (52, dA), (53, dA), (54, dA), (55, dA), (56, dA), (57, dA), (58, dA), (59, dA), (60, dA), (61, dA)]) (fun x => ([hStr b6 24 [dI (N : Int), dX x.2], hRow x.2 25 Ints (l ++ negC (c.take x.1))])) (fun x => c.length - x.1) (fun x => x.1 ≤ c.length) (0, v6) ?start ?frame0 ?objs0 ?round)
        case start => exact Nat.zero_le _
        case frame0 => ((try dsimp only [upds, z0, z1]); repeat (first | exact LeF.nil | refine LeF.co (k := ?_)))
        case objs0 => simp [negC]
        case round =>
          rintro ⟨i, vo⟩ hi
          simp only at hi
          dsimp only [upds, z0, z1]
          by_cases hil : i < c.length
          · have hlti : (i : Int) < (c.length : Int) := by omega
            obtain ⟨y, hy⟩ : ∃ y, c[i] = y := ⟨_, rfl⟩
            have hyr := hc.rng y (by rw [← hy]; exact List.getElem_mem hil)
            have et : l ++ negC (c.take (i + 1)) = (l ++ negC (c.take i)) ++ [[-y]] := by rw [negC_take hil, hy, List.append_assoc]
            have hln : (l ++ negC (c.take i)).length ≤ 1000 := by rw [List.length_append, List.length_map, List.length_take]; omega
            have h24 : ((l ++ negC (c.take i)).length + 1) * 24 ≤ 140737488355328 := by omega
            ((repeat' (first | ((first | apply WL.opN | apply WD.opN); exact yF; dsimp only [setD, z0, z1]) | refine WL.nil ?_ | refine WC.seqK fun Kx hK => ?_ | (refine hK _ _ ?_; clear hK) | refine WC.region ?_ |  (refine WL.rowIs (mAt 0 rfl) fun hvv => WL.perm (List.Perm.swap _ _ _) ?_; refine WL.ofSW (SW.storeS tySS (OpD.t rfl) (OpD.t rfl) (shape_X hvv) (by simp)) fun _ => ?_; dsimp only [setD, z0, z1]) | ((apply (WL.perm (List.Perm.swap _ _ _)); (first | apply WL.pushK | apply WL.push1); (exact eD); exact OpD.t rfl; (exact oD); (intro _; exact hD); (exact (by simp)); (exact (by simp)); (first | exact ⟨by decide, by decide⟩ | skip); decide; (exact lD); (intro _; dsimp only [setD, z0, z1]); all_goals (try infer_instance))) | ((first | apply WL.opG | apply WD.op); (focus (first | exact wN | (apply SYG.yes; (exact wY); ((first | (refine SY.ixE1 (R := RI) (_gR := inferInstance) elI hil hy (OpD.t rfl) (OpD.t rfl)) | (refine SY.fldS strC (OpD.t rfl) (by decide)) | (apply SY.loadS; exact tySS; exact OpD.t rfl; (first | exact mAt 0 rfl | exact mAt 1 rfl); rfl) | (exact SY.neg (OpD.t rfl) (by omega)) | ((first | apply SY.move | apply SY.assign | apply SY.lss | apply SY.gtr | apply SY.eql | apply SY.neq | apply SY.not) <;> (exact oD)) | ((first | apply SY.add) <;> first | exact oD | omega) | (apply SY.build1'; (exact eD); ((try simp only [List.map_cons, List.map_nil]); (repeat (first | exact ElsD.nl | (apply ElsD.cn; (first | exact OpD.t rfl | exact OpD.i | exact OpD.b | exact OpD.tle rfl (by first | exact Dat.le_nil | exact Dat.le_nilK (by decide)) | exact ⟨Dat.le_nil⟩ | exact ⟨Dat.le_nilK (by decide)⟩))))); rfl; rfl; (intro _; first | exact shape_K | exact shape_I | exact shape_A | exact shape_B); (exact (by simp))) | fail); all_goals infer_instance)))); dsimp only [setD, z0, z1]) | (apply WC.condD; (exact oD); all_goals (intro h; try exact xD)) | refine WC.skip ?_ | refine WC.block ?_ | refine ThenD.n ?_)); all_goals (first | ((repeat clear hK); (repeat clear Kx))))
            all_goals try (exfalso; first | contradiction | omega)
            try rw [← et]
            (refine ⟨(i + 1, _), ?_, by first | omega | (simp only; omega), rfl, ?_⟩; rotate_left; ((try dsimp only [upds, z0, z1]); repeat (first | exact LeF.nil | refine LeF.co (k := ?_))); (try dsimp only))
            omega
          · have hlti : ¬ (i : Int) < (c.length : Int) := by omega
            obtain rfl : i = c.length := by omega
            rw [List.take_length]
            (repeat' (first |  (refine WC.only 10 (Halt.go ?_)) | refine WL.nil ?_ | refine WC.seqK fun Kx hK => ?_ | (refine hK _ _ ?_; clear hK) | (refine Kont.skip ?_; clear hK) | refine WC.region ?_ | ((first | apply WL.opG | apply WD.op); (focus (first | exact wN | (apply SYG.yes; (exact wY); ((first | ((first | apply SY.move | apply SY.assign | apply SY.lss | apply SY.gtr | apply SY.eql | apply SY.neq | apply SY.not) <;> (exact oD)) | fail); all_goals infer_instance)))); dsimp only [setD, z0, z1]) | (apply WC.condD; (exact oD); all_goals (intro h; try exact xD)) | refine WC.exit ?_))
            all_goals try (exfalso; first | contradiction | omega)
            refine ⟨WC.keepS1 (k := 1) rfl (WC.freezeQ (t := 6) rfl ?_)⟩
            dsimp only [z0, z1]
            (repeat' (first |  (refine WC.only 11 (Halt.go ?_)) | ((first | apply WL.opN | apply WD.opN); exact yF; dsimp only [setD, z0, z1]) | refine WL.nil ?_ | refine WC.seqK fun Kx hK => ?_ | (refine hK _ _ ?_; clear hK) | refine WC.region ?_ | ((first | apply WL.opG | apply WD.op); (focus (first | exact wN | (apply SYG.yes; (exact wY); ((first | (apply SY.call hn1 Try.call15; exact ArgsD.cons (OpD.t rfl) ArgsD.nil) | (apply SY.extract; (exact oD); rfl) | fail); all_goals infer_instance)))); dsimp only [setD, z0, z1])))
            all_goals try (exfalso; first | contradiction | omega)
            refine ⟨?_⟩
            (repeat' (first |  (refine WC.only 12 (Halt.go ?_)) | ((first | apply WL.opN | apply WD.opN); exact yF; dsimp only [setD, z0, z1]) | refine WL.nil ?_ | refine WC.seqK fun Kx hK => ?_ | (refine hK _ _ ?_; clear hK) | refine WC.region ?_ | ((first | apply WL.opG | apply WD.op); (focus (first | exact wN | (apply SYG.yes; (exact wY); ((first | (apply SY.call hn2 Try.call15; exact ArgsD.cons (OpD.t rfl) ArgsD.nil) | (apply SY.extract; (exact oD); rfl) | fail); all_goals infer_instance)))); dsimp only [setD, z0, z1])))
            all_goals try (exfalso; first | contradiction | omega)
            refine ⟨?_⟩
            (repeat' (first |  (refine WC.drawM (fun _ => True) 12 1 [(0, false), (1, false), (2, false), (3, true), (4, false), (5, false), (6, false), (7, false), (8, false), (9, false), (10, false), (11, false)] [true, true, true, true, true, true, true, true, true, true, true, true, false] (by kernel_rfl) (by kernel_rfl) (by kernel_rfl) rfl (trivial) ?_) |  (first | refine WA.one (S := [true, true, true, true, true, true, true, true, true, true, true, true, false]) (i := 12) (by kernel_rfl) rfl ?_ | refine WA.nil (S := [true, true, true, true, true, true, true, true, true, true, true, true, true]) (by kernel_rfl) ?_) |  (refine WM.writeL rfl (SW.callC (β := {x : Int × List Int × List Int // UnderR N l (ngI c) x.1 x.2.1 x.2.2}) (hp := []) (hp1 := []) (caps := []) (H := fun _ => []) (D := fun x => dT [dI x.1.1, dS Ints x.1.2.1, dS Ints x.1.2.2, dI 0]) hun Try.call30 OpD.f (ArgsD.cons (OpD.t rfl) (ArgsD.cons (OpD.t rfl) ArgsD.nil)) (fun _ _ h => h)) (fun _ => trivial) fun x => ?_; obtain ⟨⟨v, m, cr⟩, hx⟩ := x; dsimp only [setD, z0, z1, List.cons_append, List.nil_append]) |  (refine WC.only 15 (Halt.go ?_)) | (refine WM.nil ?_) | (apply WM.readL rfl; (focus (intro c hcc; apply SYG.yes; (exact want_none rfl); ((first | (apply SY.call (hng) Try.call31; (exact aD)) | ((first | apply SY.move | apply SY.assign | apply SY.lss | apply SY.gtr | apply SY.eql | apply SY.neq | apply SY.not) <;> (exact oD)) | (apply SY.load; (exact tD); (exact oD)) | (apply SY.extract; (exact oD); rfl) | fail); all_goals infer_instance))); dsimp only [setD, z0, z1]) | ((first | apply WL.opN | apply WD.opN); exact yF; dsimp only [setD, z0, z1]) | refine WL.nil ?_ | refine WC.seqK fun Kx hK => ?_ | (refine hK _ _ ?_; clear hK) | refine WC.region ?_ | ((first | apply WL.opG | apply WD.op); (focus (first | exact wN | (apply SYG.yes; (exact wY); ((first | (apply SY.call hn3 Try.call15; exact ArgsD.cons (OpD.t rfl) ArgsD.nil) | (apply SY.call (himp) Try.call29; (exact aD)) | (apply SY.extract; (exact oD); rfl) | fail); all_goals infer_instance)))); dsimp only [setD, z0, z1])))
            all_goals try (exfalso; first | contradiction | omega)
            refine ⟨?_⟩
            have hv : (v = 1 ∧ 0 < n3) ∨ (v = 2 ∧ n3 = 0) := hup ⟨_, hx⟩
            clear hup hx
            have hq1 : (n1 : Int) = (n2 : Int) + (n3 : Int) := by omega
            have hq2 : decide (n3 = 0) = decide ((n3 : Int) = 0) := by
              by_cases h0 : n3 = 0
              · rw [decide_eq_true h0, decide_eq_true (by omega)]
              · rw [decide_eq_false h0, decide_eq_false (by omega)]
            have hq3 : decide (v = 1) = decide ((0 : Int) < (n3 : Int)) := by
              rcases hv with ⟨rfl, h0⟩ | ⟨rfl, h0⟩
              · rw [decide_eq_true rfl, decide_eq_true (by omega)]
              · rw [decide_eq_false (by decide), decide_eq_false (by omega)]
            have hs2 : n2 ≤ 256 := Nat.le_trans hb1 hpw
            have hs3 : n3 ≤ 256 := Nat.le_trans hb2 hpw
            clear hv hb1 hb2
            ((repeat' (first | ((first | apply WL.opN | apply WD.opN); exact yF; dsimp only [setD, z0, z1]) | refine WL.nil ?_ | (refine hK _ _ ?_; clear hK) | refine WC.region ?_ | ((first | apply WL.opG | apply WD.op); (focus (first | exact wN | (apply SYG.yes; (exact wY); ((first | (apply SY.call (haw) Try.call21; (exact aD)) | ((first | apply SY.move | apply SY.assign | apply SY.lss | apply SY.gtr | apply SY.eql | apply SY.neq | apply SY.not) <;> (exact oD)) | ((first | apply SY.add) <;> first | exact oD | omega) | (apply SY.eqlB; (exact oD); (exact oD); exact eqBB) | (apply SY.pickT; (exact oD); (with_reducible rfl); (exact oD)) | fail); all_goals infer_instance)))); dsimp only [setD, z0, z1]) | ((first | refine WL.caseP rfl rfl rfl (fun h => ?_) (fun h => ?_) | refine WL.caseN rfl rfl rfl (fun h => ?_) (fun h => ?_) | refine WL.caseB rfl rfl rfl (fun h => ?_) (fun h => ?_) | refine WD.caseP rfl rfl rfl (fun h => ?_) (fun h => ?_) | refine WD.caseN rfl rfl rfl (fun h => ?_) (fun h => ?_) | refine WD.caseB rfl rfl rfl (fun h => ?_) (fun h => ?_)) <;> (first | (exfalso; first | omega | contradiction) | (dsimp only [z0, z1]))) | refine WC.ret ?_)); all_goals (first | ((repeat clear hK); (repeat clear Kx))))
            all_goals try (exfalso; first | contradiction | omega)
            (refine ⟨trivial, _, rfl, ?_⟩; exact fD)
    · have hcz' : ¬ clauseI (N : Int) none c = 0 := hcz
      generalize clauseI (N : Int) none c = z at *
      (refine Fn.intro1 Try.func6 rfl rfl ?_; simp only [Try.ntmps6, List.length_cons, List.length_nil, Nat.reduceAdd, Nat.reduceSub, List.replicate_succ, List.replicate_zero, List.cons_append, List.nil_append])
      ((repeat' (first | ((first | apply WL.opN | apply WD.opN); exact yF; dsimp only [setD, z0, z1]) | refine WL.nil ?_ | refine WC.seqK fun Kx hK => ?_ | (refine hK _ _ ?_; clear hK) | refine WC.region ?_ | ((first | apply WL.opG | apply WD.op); (focus (first | exact wN | (apply SYG.yes; (exact wY); ((first | (apply SY.call (hg) Try.call26; (exact aD)) | (apply SY.call (hcl1) Try.call27; (exact aD)) | (apply SY.call (haw) Try.call21; (exact aD)) | ((first | apply SY.move | apply SY.assign | apply SY.lss | apply SY.gtr | apply SY.eql | apply SY.neq | apply SY.not) <;> (exact oD)) | (apply SY.load; (exact tD); (exact oD)) | (apply SY.fldP0 clT; exact OpD.t rfl) | (apply SY.fldP1 clT; exact OpD.t rfl) | (apply SY.pickF; (exact oD); (with_reducible rfl); (exact oD)) | (apply SY.box; (exact oD); (exact hD)) | fail); all_goals infer_instance)))); dsimp only [setD, z0, z1]) | ((first | refine WL.caseP rfl rfl rfl (fun h => ?_) (fun h => ?_) | refine WL.caseN rfl rfl rfl (fun h => ?_) (fun h => ?_) | refine WL.caseB rfl rfl rfl (fun h => ?_) (fun h => ?_) | refine WD.caseP rfl rfl rfl (fun h => ?_) (fun h => ?_) | refine WD.caseN rfl rfl rfl (fun h => ?_) (fun h => ?_) | refine WD.caseB rfl rfl rfl (fun h => ?_) (fun h => ?_)) <;> (first | (exfalso; first | omega | contradiction) | (dsimp only [z0, z1]))) | (apply WC.condN; (exact oD); all_goals (intro h; try exact xD)) | refine WC.ret ?_ | refine ThenD.r ?_)); all_goals (first | ((repeat clear hK); (repeat clear Kx))))
      all_goals try (exfalso; first | contradiction | omega)
      (refine ⟨trivial, _, rfl, ?_⟩; exact fD)
end Go.Proofs.Ytpiidgcljlalmaa
