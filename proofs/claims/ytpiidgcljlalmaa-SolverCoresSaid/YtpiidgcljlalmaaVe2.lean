/- Part 2: walks by contracts, and plain laws. -/
import Derived.Test.YtpiidgcljlalmaaVd7
import Derived.Test.YtpiidgcljlalmaaVe1
set_option linter.unusedVariables false
set_option linter.unusedSimpArgs false
set_option linter.unusedSectionVars false
namespace Go.Proofs.Ytpiidgcljlalmaa
open Go.RowKit
theorem dP_mono {n : Nat} {ag : Bool} {d d' : Dat} (h : d.le d') : (dP n ag d).le (dP n ag d') := fun _ _ _ ⟨b, off, u, q1, q2, q3⟩ => ⟨b, off, u, q1, q2, h _ _ _ q3⟩
section
variable {P : Program} {hp : List HObj} {fr : List Dat} {Q : Post} {b : Nat} {T : TypeId}
theorem WC.freezeQ {c : Code} {t : Nat} {V : Int} {l : List (List Int)} (hp0 : fr[t]? = some (dX (.pointer (some ⟨b, 0, none⟩)))) (h : WC P Q c (fr.set t (dP 2 true (dS Cls (V, l)))) hp) : WC P Q c fr (hStr b T [dI V, dS Rows l] :: hp) := by
  refine WC.freezeS hp0 (n := 2) (by decide) rfl (h.weak (by simp) fun t' d hd => ?_)
  obtain ⟨ht, _⟩ := List.getElem?_eq_some_iff.1 hp0
  rw [List.getElem?_set] at hd ⊢
  by_cases htt : t = t'
  · subst htt
    rw [if_pos rfl, if_pos ht] at hd ⊢
    cases hd
    exact ⟨_, rfl, dP_mono (agg_le (Dat.le_refl _) (Dat.le_refl _))⟩
  · rw [if_neg htt] at hd ⊢
    exact ⟨d, hd, Dat.le_refl _⟩
end
def dropP {α : Type} (R : List α) : Nat → Nat → List α
  | 0, k => R.take k
  | i + 1, k => (R.take k).eraseIdx i
theorem dropP_succ {α : Type} (R : List α) (i k : Nat) : dropP R (i + 1) k = (R.take k).eraseIdx i := rfl
theorem dropP_zero {α : Type} (R : List α) (d : Nat) : dropP R d 0 = [] := by cases d <;> simp [dropP]
theorem dropP_yes {α : Type} {R : List α} {d k : Nat} (h : k < R.length) (hd : k + 1 ≠ d) : dropP R d (k + 1) = dropP R d k ++ [R[k]] := by
  cases d with
  | zero => exact List.take_succ_eq_append_getElem h
  | succ i =>
    rw [dropP_succ, dropP_succ, List.take_succ_eq_append_getElem h]
    have hl : (R.take k).length = k := by rw [List.length_take]; omega
    by_cases hi : i < k
    · rw [List.eraseIdx_append_of_lt_length (by omega)]
    · rw [List.eraseIdx_of_length_le (by rw [List.length_append, hl]; simp; omega), List.eraseIdx_of_length_le (by omega)]
theorem dropP_no {α : Type} {R : List α} {d k : Nat} (h : k < R.length) (hd : k + 1 = d) : dropP R d (k + 1) = dropP R d k := by
  subst hd
  rw [dropP_succ, dropP_succ, List.take_succ_eq_append_getElem h]
  have hl : (R.take k).length = k := by rw [List.length_take]; omega
  rw [List.eraseIdx_append_of_length_le (by omega), hl, Nat.sub_self, List.eraseIdx_of_length_le (l := R.take k) (by omega)]
  simp
theorem dropP_len {α : Type} (R : List α) (d k : Nat) : (dropP R d k).length ≤ k := by
  cases d with
  | zero => unfold dropP; rw [List.length_take]; omega
  | succ i =>
    rw [dropP_succ]
    have := List.length_eraseIdx_le (R.take k) i
    have h2 := List.length_take (l := R) (i := k)
    omega
theorem dropP_sub {α : Type} {R : List α} {d k : Nat} {x : α} (h : x ∈ dropP R d k) : x ∈ R := by
  cases d with
  | zero => exact List.mem_of_mem_take h
  | succ i => exact List.mem_of_mem_take ((List.eraseIdx_sublist _ _).subset h)
theorem dropP_all {l : List (List Int)} {ks : List Int} (i : Nat) : dropP (chosenI l ks) (i + 1) (chosenI l ks).length = chosenI l (remI ks i) := by
  rw [dropP_succ, List.take_length, List.eraseIdx_eq_take_drop_succ]
  unfold chosenI remI
  rw [List.map_append, List.map_take, List.map_drop]
theorem check_of {V : Nat} (hV : V ≤ 4096) {r : List (List Int)} (hw : WfL V r) (hl : r.length ≤ 32768) : checkI (V : Int) r = 0 := by
  have hs0 : sizesI (V : Int) r.length = 0 := by unfold sizesI; rw [if_neg (by omega), if_neg (by omega)]
  unfold checkI
  rw [hs0, if_neg (by simp)]
  exact (clausesI_iff hV).2 hw
theorem upI_inc (n : Nat) : (upI n).Pairwise (· < ·) := by
  unfold upI
  rw [List.pairwise_map]
  exact (List.pairwise_lt_range (n := n)).imp fun {a b} h => by show (a : Int) < (b : Int); omega
set_option linter.unusedSimpArgs false
set_option linter.unusedVariables false
set_option maxHeartbeats 2000000
set_option maxRecDepth 100000
set_option maxHeartbeats 16000000 in
theorem cores_p (V : Int) (l : List (List Int)) (hr : IRR l) : Fn Try.prog 7 [dS Cls (V, l)] (dB true) := by
  have haw := awake_p
  have hg := good43_p V l 8
  cases hq : (fewB V l && (decide (checkI V l = 0) && decide (V ≤ 8))) with
  | false =>
    rw [hq] at hg
    (refine Fn.intro1 Try.func7 rfl rfl ?_; simp only [Try.ntmps7, List.length_cons, List.length_nil, Nat.reduceAdd, Nat.reduceSub, List.replicate_succ, List.replicate_zero, List.cons_append, List.nil_append])
    ((repeat' (first | ((first | apply WL.opN | apply WD.opN); exact yF; dsimp only [setD, z0, z1]) | refine WL.nil ?_ | refine WC.seqK fun Kx hK => ?_ | (refine hK _ _ ?_; clear hK) | refine WC.region ?_ | ((first | apply WL.opG | apply WD.op); (focus (first | exact wN | (apply SYG.yes; (exact wY); ((first | (apply SY.call (hg) Try.call26; (exact aD)) | (apply SY.call (haw) Try.call21; (exact aD)) | ((first | apply SY.move | apply SY.assign | apply SY.lss | apply SY.leq | apply SY.gtr | apply SY.geq | apply SY.eql | apply SY.neq | apply SY.not) <;> (exact oD)) | (apply SY.box; (exact oD); (exact hD)) | fail); all_goals infer_instance)))); dsimp only [setD, z0, z1]) | (apply WC.condNB; (exact oD); all_goals (intro h; try exact xD)) | refine WC.ret ?_ | refine ThenD.r ?_)); all_goals (first | ((repeat clear hK); (repeat clear Kx))))
    all_goals try (exfalso; first | contradiction | omega)
    (refine ⟨trivial, _, rfl, ?_⟩; exact fD)
  | true =>
    rw [hq] at hg
    simp only [Bool.and_eq_true, decide_eq_true_eq] at hq
    obtain ⟨_, hck, hV8⟩ := hq
    obtain ⟨N, rfl⟩ : ∃ N : Nat, V = (N : Int) := ⟨V.toNat, by have := (checkI_zero hck).1; omega⟩
    have hs := solve_c N l (by omega) hck
    have hco := coreS_p N l (by omega) hck
    obtain ⟨_, _, hll, hcl⟩ := checkI_zero hck
    have hw : WfL N l := (clausesI_iff (by omega)).1 hcl
    cases hu : unsB N l with
    | false =>
      rw [hu] at hco
      simp only [Bool.false_eq_true, if_false] at hco
      (refine Fn.intro1 Try.func7 rfl rfl ?_; simp only [Try.ntmps7, List.length_cons, List.length_nil, Nat.reduceAdd, Nat.reduceSub, List.replicate_succ, List.replicate_zero, List.cons_append, List.nil_append])
      (repeat' (first |  (refine WC.only 5 (Halt.go ?_)) | ((first | apply WL.opN | apply WD.opN); exact yF; dsimp only [setD, z0, z1]) | refine WL.nil ?_ | refine WC.seqK fun Kx hK => ?_ | (refine hK _ _ ?_; clear hK) | refine WC.region ?_ |  (refine WL.callC (hp1 := []) (caps := []) hs Try.call16 OpD.f (ArgsD.cons (OpD.t rfl) ArgsD.nil) ?_; rintro d' hp2 ⟨rfl, e2, e3, e4, e5, rfl, v, m, p, rfl, rfl, rfl, rfl, hR1⟩; dsimp only [setD, z0, z1, List.nil_append]) | ((first | apply WL.opG | apply WD.op); (focus (first | exact wN | (apply SYG.yes; (exact wY); ((first | (apply SY.call (hg) Try.call26; (exact aD)) | (apply SY.call (hco) Try.call32; (exact aD)) | ((first | apply SY.move | apply SY.assign | apply SY.lss | apply SY.leq | apply SY.gtr | apply SY.geq | apply SY.eql | apply SY.neq | apply SY.not) <;> (exact oD)) | (apply SY.extract; (exact oD); rfl) | (apply SY.box; (exact oD); (exact hD)) | fail); all_goals infer_instance)))); dsimp only [setD, z0, z1]) | (apply WC.condNB; (exact oD); all_goals (intro h; try exact xD)) | refine WC.skip ?_))
      all_goals try (exfalso; first | contradiction | omega)
      refine ⟨?_⟩
      have hv1 : v = 1 := by
        rcases hR1.is with ⟨h1, _, _⟩ | ⟨_, _, _, h2, _⟩
        · exact h1
        · rw [hu] at h2; cases h2
      subst hv1
      clear hR1
      ((repeat' (first | ((first | apply WL.opN | apply WD.opN); exact yF; dsimp only [setD, z0, z1]) | refine WL.nil ?_ | refine WC.seqK fun Kx hK => ?_ | (refine hK _ _ ?_; clear hK) | refine WC.region ?_ | ((first | apply WL.opG | apply WD.op); (focus (first | exact wN | (apply SYG.yes; (exact wY); ((first | (apply SY.call (haw) Try.call21; (exact aD)) | ((first | apply SY.move | apply SY.assign | apply SY.lss | apply SY.leq | apply SY.gtr | apply SY.geq | apply SY.eql | apply SY.neq | apply SY.not) <;> (exact oD)) | (apply SY.len; (exact oD); (exact nD); (exact uD)) | (apply SY.pickT; (exact oD); (with_reducible rfl); (exact oD)) | (apply SY.pickF; (exact oD); (with_reducible rfl); (exact oD)) | fail); all_goals infer_instance)))); dsimp only [setD, z0, z1]) | ((first | refine WL.caseP rfl rfl rfl (fun h => ?_) (fun h => ?_) | refine WL.caseN rfl rfl rfl (fun h => ?_) (fun h => ?_) | refine WL.caseB rfl rfl rfl (fun h => ?_) (fun h => ?_) | refine WD.caseP rfl rfl rfl (fun h => ?_) (fun h => ?_) | refine WD.caseN rfl rfl rfl (fun h => ?_) (fun h => ?_) | refine WD.caseB rfl rfl rfl (fun h => ?_) (fun h => ?_)) <;> (first | (exfalso; first | omega | contradiction) | (dsimp only [z0, z1]))) | (apply WC.condN; (exact oD); all_goals (intro h; try exact xD)) | refine WC.ret ?_ | refine ThenD.r ?_)); all_goals (first | ((repeat clear hK); (repeat clear Kx))))
      all_goals try (exfalso; first | contradiction | omega)
      (refine ⟨trivial, _, rfl, ?_⟩; exact fD)
    | true =>
      rw [hu] at hco
      simp only [if_true] at hco
      obtain ⟨hc1, hc2, hc3⟩ := core43_facts hu
      have hkr : ∀ y ∈ core43 N l, 0 ≤ y ∧ y < l.length := fun y hy => upI_mem (hc1.subset hy)
      have hkl : (core43 N l).length ≤ l.length := by have := hc1.length_le; rwa [upI_length] at this
      have hki := (upI_inc l.length).sublist hc1
      generalize core43 N l = ks at hco hc1 hc2 hc3 hkr hkl hki
      have hRl : (chosenI l ks).length = ks.length := chosenI_length _ _
      have hRw : WfL N (chosenI l ks) := fun d hd => hw d (chosenI_mem hkr d hd)
      have hSv : ∀ d : Nat, CallC Try.prog 16 ([dS Cls ((N : Int), dropP (chosenI l ks) d (chosenI l ks).length)] ++ ([] : List Value).map dX) [] (fun d' hp2 => hp2 = [] ∧ ∃ e2 e3 e4 e5, d' = dT [e2, e3, e4, e5] ∧ ∃ v m p, e2 = dI v ∧ e3 = dS Ints m ∧ e4 = dS Rows p ∧ e5 = dI 0 ∧ SolveR N (dropP (chosenI l ks) d (chosenI l ks).length) v m p) := fun d =>
        solve_c N _ (by omega) (check_of (by omega) (fun c hc => hRw c (dropP_sub hc)) (by have := dropP_len (chosenI l ks) d (chosenI l ks).length; omega))
      have hDu : ∀ d : Nat, d ≤ (chosenI l ks).length → unsB N (dropP (chosenI l ks) d (chosenI l ks).length) = decide (d = 0) := fun d hd => by
        cases d with
        | zero => rw [show dropP (chosenI l ks) 0 (chosenI l ks).length = (chosenI l ks).take (chosenI l ks).length from rfl, List.take_length, hc2]; rfl
        | succ i => rw [dropP_all, hc3 i (by omega)]; rfl
      clear hc1 hc2 hc3 hcl
      (refine Fn.intro1 Try.func7 rfl rfl ?_; simp only [Try.ntmps7, List.length_cons, List.length_nil, Nat.reduceAdd, Nat.reduceSub, List.replicate_succ, List.replicate_zero, List.cons_append, List.nil_append])
      (repeat' (first |  (refine WC.only 5 (Halt.go ?_)) | ((first | apply WL.opN | apply WD.opN); exact yF; dsimp only [setD, z0, z1]) | refine WL.nil ?_ | refine WC.seqK fun Kx hK => ?_ | (refine hK _ _ ?_; clear hK) | refine WC.region ?_ |  (refine WL.callC (hp1 := []) (caps := []) hs Try.call16 OpD.f (ArgsD.cons (OpD.t rfl) ArgsD.nil) ?_; rintro d' hp2 ⟨rfl, e2, e3, e4, e5, rfl, v, m, p, rfl, rfl, rfl, rfl, hR1⟩; dsimp only [setD, z0, z1, List.nil_append]) | ((first | apply WL.opG | apply WD.op); (focus (first | exact wN | (apply SYG.yes; (exact wY); ((first | (apply SY.call (hg) Try.call26; (exact aD)) | (apply SY.call (hco) Try.call32; (exact aD)) | ((first | apply SY.move | apply SY.assign | apply SY.lss | apply SY.leq | apply SY.gtr | apply SY.geq | apply SY.eql | apply SY.neq | apply SY.not) <;> (exact oD)) | (apply SY.extract; (exact oD); rfl) | (apply SY.box; (exact oD); (exact hD)) | fail); all_goals infer_instance)))); dsimp only [setD, z0, z1]) | (apply WC.condNB; (exact oD); all_goals (intro h; try exact xD)) | refine WC.skip ?_))
      all_goals try (exfalso; first | contradiction | omega)
      refine ⟨?_⟩
      have hv2 : v = 2 := by
        rcases solve_verdict hR1 with ⟨_, h2⟩ | ⟨h1, _⟩
        · rw [unsB_iff.1 hu] at h2; exact absurd h2 (by decide)
        · exact h1
      subst hv2
      clear hR1 hu hs hco
      (repeat' (first | ((first | apply WL.opN | apply WD.opN); exact yF; dsimp only [setD, z0, z1]) | refine WL.nil ?_ | refine WC.seqK fun Kx hK => ?_ | (refine hK _ _ ?_; clear hK) | refine WC.region ?_ |  (refine WL.allocS (zs := [.int .i64 0, .slice none 0 0]) tzV (by decide) (by simp [Value.oneCell']) fun b1 => ?_; dsimp only [setD, z0, z1]) |  (refine WL.storeW tyV (OpD.t rfl) (OpD.t rfl) rfl rfl ?_; dsimp only [setD, z0, z1]) | ((first | apply WL.opG | apply WD.op); (focus (first | exact wN | (apply SYG.yes; (exact wY); ((first | (exact SY.mkA1 (OpD.t rfl)) | ((first | apply SY.move | apply SY.assign | apply SY.lss | apply SY.leq | apply SY.gtr | apply SY.geq | apply SY.eql | apply SY.neq | apply SY.not) <;> (exact oD)) | (apply SY.len; (exact oD); (exact nD); (exact uD)) | (apply SY.fldP0 clT; exact OpD.t rfl) | (apply SY.fldP1 clT; exact OpD.t rfl) | (apply SY.pickF; (exact oD); (with_reducible rfl); (exact oD)) | fail); all_goals infer_instance)))); dsimp only [setD, z0, z1]) | ((first | refine WL.caseP rfl rfl rfl (fun h => ?_) (fun h => ?_) | refine WL.caseN rfl rfl rfl (fun h => ?_) (fun h => ?_) | refine WL.caseB rfl rfl rfl (fun h => ?_) (fun h => ?_) | refine WD.caseP rfl rfl rfl (fun h => ?_) (fun h => ?_) | refine WD.caseN rfl rfl rfl (fun h => ?_) (fun h => ?_) | refine WD.caseB rfl rfl rfl (fun h => ?_) (fun h => ?_)) <;> (first | (exfalso; first | omega | contradiction) | (dsimp only [z0, z1]))) | (apply WC.condN; (exact oD); all_goals (intro h; try exact xD)) | refine WC.skip ?_ | refine WC.block ?_))
      all_goals try (exfalso; first | contradiction | omega)
      refine WC.nilRow 25 Ints (WC.perm (List.Perm.swap _ _ _) ?_)
      (refine WC.loopU (X := Nat × Value) (fun x => [(65, dI (x.1 : Int)), (2, dA), (10, dA), (11, dA), (66, dA), (67, dA), (68, dA), (69, dA), (70, dA), (71, dA), (72, dA), (73, dA), (74, dA), (75, dA), (76, dA), (77, dA), (78, dA), (79, dA), (80, dA), (81, dA), (82, dA), (83, dA), (84, dA), (85, dA), (86, dA), (87, dA), (88, dA), (89, dA), (90, dA), (91, dA), (92, dA), (93, dA), (94, dA), (95, dA), (96, dA), (97, dA), (98, dA), (99, dA), (100, dA), (101, dA), (102, dA)]) (fun x => ([hStr b1 24 [dI (N : Int), dX x.2], hRow x.2 25 Ints (chosenI l (ks.take x.1))])) (fun x => ks.length - x.1) (fun x => x.1 ≤ ks.length) (0, nilV) ?start ?frame0 ?objs0 ?round)
      case start => exact Nat.zero_le _
      case frame0 => ((try dsimp only [upds, z0, z1]); repeat (first | exact LeF.nil | refine LeF.co (k := ?_)))
      case objs0 => rfl
      case round =>
        rintro ⟨i, vo⟩ hi
        simp only at hi
        dsimp only [upds, z0, z1]
        by_cases hil : i < ks.length
        · have hlti : (i : Int) < (ks.length : Int) := by omega
          obtain ⟨k, hk⟩ : ∃ k, ks[i] = k := ⟨_, rfl⟩
          obtain ⟨q1, q2⟩ := hkr k (by rw [← hk]; exact List.getElem_mem hil)
          have hg1 : ¬ k < 0 := by omega
          have hg2 : ¬ k ≥ (l.length : Int) := by omega
          have hkn : k.toNat < l.length := by omega
          have hkc : (k.toNat : Int) = k := by omega
          have et := chosen_take' (l := l) hil
          rw [hk] at et
          have hgd : l.getD k.toNat [] = l[k.toNat] := by rw [List.getD_eq_getElem?_getD, List.getElem?_eq_getElem hkn]; rfl
          rw [hgd] at et
          have hcln : (chosenI l (ks.take i)).length = i := by rw [chosenI_length, List.length_take]; omega
          have h24 : ((chosenI l (ks.take i)).length + 1) * 24 ≤ 140737488355328 := by omega
          rcases Nat.eq_zero_or_pos i with rfl | hi0
          · have hz : ¬ ((0 : Nat) : Int) > 0 := by omega
            ((repeat' (first |  (refine WC.drawM (fun hp' => hStr b1 24 [dI (N : Int), dX vo] ∈ hp') 9 2 [(0, false), (1, false), (2, false), (3, false), (4, false), (5, false), (6, false), (7, false), (8, true)] [true, true, true, true, true, true, true, true, true, false, false] (by kernel_rfl) (by kernel_rfl) (by kernel_rfl) rfl (mAt 0 rfl) ?_) |  (first | refine WA.one (S := [true, true, true, true, true, true, true, true, true, false, false]) (i := 9) (by kernel_rfl) rfl ?_ | refine WA.one (S := [true, true, true, true, true, true, true, true, true, true, false]) (i := 10) (by kernel_rfl) rfl ?_ | refine WA.nil (S := [true, true, true, true, true, true, true, true, true, true, true]) (by kernel_rfl) ?_) |  (refine WM.writeL rfl (SW.at 1 rfl fun q => SW.app1 elSi (R := Ints) (_gR := inferInstance) (OpD.t rfl) (OpD.t rfl) (by decide) h24) (fun _ => mAt 0 rfl) fun vo2 => ?_; dsimp only [setD, z0, z1]) | (refine WM.nil ?_) | (apply WM.readL rfl; (focus (intro c hcc; apply SYG.yes; (exact want_none rfl); ((first | (refine SY.fldS strC (OpD.t rfl) (by decide)) | (apply SY.loadS; exact tySS; exact OpD.t rfl; (first | exact hcc | exact mAt 0 rfl); rfl) | (refine SY.ixJ (R := Ints) (_gR := inferInstance) elSi (OpD.t rfl) (OpD.t rfl) k.toNat hkc.symm hkn) | ((first | apply SY.move | apply SY.assign | apply SY.lss | apply SY.leq | apply SY.gtr | apply SY.geq | apply SY.eql | apply SY.neq | apply SY.not) <;> (exact oD)) | (apply SY.load; (exact tD); (exact oD)) | (apply SY.fldP0 clT; exact OpD.t rfl) | (apply SY.fldP1 clT; exact OpD.t rfl) | (apply SY.build1'; (exact eD); ((try simp only [List.map_cons, List.map_nil]); (repeat (first | exact ElsD.nl | (apply ElsD.cn; (first | exact OpD.t rfl | exact OpD.i | exact OpD.b | exact OpD.tle rfl (by first | exact Dat.le_nil | exact Dat.le_nilK (by decide)) | exact ⟨Dat.le_nil⟩ | exact ⟨Dat.le_nilK (by decide)⟩))))); rfl; rfl; (intro _; first | exact shape_K | exact shape_I | exact shape_A | exact shape_B); (exact (by simp))) | fail); all_goals infer_instance))); dsimp only [setD, z0, z1]) | ((first | apply WL.opN | apply WD.opN); exact yF; dsimp only [setD, z0, z1]) | refine WL.nil ?_ | refine WC.seqK fun Kx hK => ?_ | (refine hK _ _ ?_; clear hK) | refine WC.region ?_ |  (refine WL.rowIs (mAt 1 rfl) fun hvv => ?_; refine WL.ofSW (SW.at 0 rfl fun q => SW.storeS tySS (OpD.t rfl) (OpD.t rfl) (shape_X hvv) (by simp)) fun _ => ?_; dsimp only [setD, z0, z1]) | ((first | apply WL.opG | apply WD.op); (focus (first | exact wN | (apply SYG.yes; (exact wY); ((first | (refine SY.ixE1 (R := RI) (_gR := inferInstance) elI hil hk (OpD.t rfl) (OpD.t rfl)) | (refine SY.fldS strC (OpD.t rfl) (by decide)) | ((first | apply SY.move | apply SY.assign | apply SY.lss | apply SY.leq | apply SY.gtr | apply SY.geq | apply SY.eql | apply SY.neq | apply SY.not) <;> (exact oD)) | ((first | apply SY.add | apply SY.sub) <;> first | exact oD | omega) | (apply SY.load; (exact tD); (exact oD)) | (apply SY.len; (exact oD); (exact nD); (exact uD)) | (apply SY.fldP0 clT; exact OpD.t rfl) | (apply SY.fldP1 clT; exact OpD.t rfl) | (apply SY.pickF; (exact oD); (with_reducible rfl); (exact oD)) | fail); all_goals infer_instance)))); dsimp only [setD, z0, z1]) | ((first | refine WL.caseP rfl rfl rfl (fun h => ?_) (fun h => ?_) | refine WL.caseN rfl rfl rfl (fun h => ?_) (fun h => ?_) | refine WL.caseB rfl rfl rfl (fun h => ?_) (fun h => ?_) | refine WD.caseP rfl rfl rfl (fun h => ?_) (fun h => ?_) | refine WD.caseN rfl rfl rfl (fun h => ?_) (fun h => ?_) | refine WD.caseB rfl rfl rfl (fun h => ?_) (fun h => ?_)) <;> (first | (exfalso; first | omega | contradiction) | (dsimp only [z0, z1]))) | (apply WC.condF; (exact oD); (with_reducible rfl)) | (apply WC.condD; (exact oD); all_goals (intro h; try exact xD)) | refine WC.skip ?_ | refine WC.block ?_ | refine ThenD.n ?_)); all_goals (first | ((repeat clear hK); (repeat clear Kx))))
            all_goals try (exfalso; first | contradiction | omega)
            rw [← et]
            (refine ⟨(0 + 1, vo2), ?_, by first | omega | (simp only; omega), rfl, ?_⟩; rotate_left; ((try dsimp only [upds, z0, z1]); repeat (first | exact LeF.nil | refine LeF.co (k := ?_))); (try dsimp only))
            omega
          · obtain ⟨j, rfl⟩ : ∃ j, i = j + 1 := ⟨i - 1, by omega⟩
            have hz : ((j + 1 : Nat) : Int) > 0 := by omega
            have hjl : j < ks.length := by omega
            have hji : ((j + 1 : Nat) : Int) - 1 = (j : Int) := by omega
            have hinc : ¬ k ≤ ks[j] := by
              have := List.pairwise_iff_getElem.1 hki j (j + 1) hjl hil (by omega)
              omega
            ((repeat' (first |  (refine WC.drawM (fun hp' => hStr b1 24 [dI (N : Int), dX vo] ∈ hp') 9 2 [(0, false), (1, false), (2, false), (3, false), (4, false), (5, false), (6, false), (7, false), (8, true)] [true, true, true, true, true, true, true, true, true, false, false] (by kernel_rfl) (by kernel_rfl) (by kernel_rfl) rfl (mAt 0 rfl) ?_) |  (first | refine WA.one (S := [true, true, true, true, true, true, true, true, true, false, false]) (i := 9) (by kernel_rfl) rfl ?_ | refine WA.one (S := [true, true, true, true, true, true, true, true, true, true, false]) (i := 10) (by kernel_rfl) rfl ?_ | refine WA.nil (S := [true, true, true, true, true, true, true, true, true, true, true]) (by kernel_rfl) ?_) |  (refine WM.writeL rfl (SW.at 1 rfl fun q => SW.app1 elSi (R := Ints) (_gR := inferInstance) (OpD.t rfl) (OpD.t rfl) (by decide) h24) (fun _ => mAt 0 rfl) fun vo2 => ?_; dsimp only [setD, z0, z1]) | (refine WM.nil ?_) | (apply WM.readL rfl; (focus (intro c hcc; apply SYG.yes; (exact want_none rfl); ((first | (refine SY.fldS strC (OpD.t rfl) (by decide)) | (apply SY.loadS; exact tySS; exact OpD.t rfl; (first | exact hcc | exact mAt 0 rfl); rfl) | (refine SY.ixJ (R := Ints) (_gR := inferInstance) elSi (OpD.t rfl) (OpD.t rfl) k.toNat hkc.symm hkn) | ((first | apply SY.move | apply SY.assign | apply SY.lss | apply SY.leq | apply SY.gtr | apply SY.geq | apply SY.eql | apply SY.neq | apply SY.not) <;> (exact oD)) | (apply SY.load; (exact tD); (exact oD)) | (apply SY.fldP0 clT; exact OpD.t rfl) | (apply SY.fldP1 clT; exact OpD.t rfl) | (apply SY.build1'; (exact eD); ((try simp only [List.map_cons, List.map_nil]); (repeat (first | exact ElsD.nl | (apply ElsD.cn; (first | exact OpD.t rfl | exact OpD.i | exact OpD.b | exact OpD.tle rfl (by first | exact Dat.le_nil | exact Dat.le_nilK (by decide)) | exact ⟨Dat.le_nil⟩ | exact ⟨Dat.le_nilK (by decide)⟩))))); rfl; rfl; (intro _; first | exact shape_K | exact shape_I | exact shape_A | exact shape_B); (exact (by simp))) | fail); all_goals infer_instance))); dsimp only [setD, z0, z1]) | ((first | apply WL.opN | apply WD.opN); exact yF; dsimp only [setD, z0, z1]) | refine WL.nil ?_ | refine WC.seqK fun Kx hK => ?_ | (refine hK _ _ ?_; clear hK) | refine WC.region ?_ |  (refine WL.rowIs (mAt 1 rfl) fun hvv => ?_; refine WL.ofSW (SW.at 0 rfl fun q => SW.storeS tySS (OpD.t rfl) (OpD.t rfl) (shape_X hvv) (by simp)) fun _ => ?_; dsimp only [setD, z0, z1]) | ((first | apply WL.opG | apply WD.op); (focus (first | exact wN | (apply SYG.yes; (exact wY); ((first | (refine SY.ixE1 (R := RI) (_gR := inferInstance) elI hil hk (OpD.t rfl) (OpD.t rfl)) | (refine SY.ixJ (R := RI) (_gR := inferInstance) elI (OpD.t rfl) (OpD.t rfl) j hji hjl) | (refine SY.fldS strC (OpD.t rfl) (by decide)) | ((first | apply SY.move | apply SY.assign | apply SY.lss | apply SY.leq | apply SY.gtr | apply SY.geq | apply SY.eql | apply SY.neq | apply SY.not) <;> (exact oD)) | ((first | apply SY.add | apply SY.sub) <;> first | exact oD | omega) | (apply SY.load; (exact tD); (exact oD)) | (apply SY.len; (exact oD); (exact nD); (exact uD)) | (apply SY.fldP0 clT; exact OpD.t rfl) | (apply SY.fldP1 clT; exact OpD.t rfl) | (apply SY.pickT; (exact oD); (with_reducible rfl); (exact oD)) | (apply SY.pickF; (exact oD); (with_reducible rfl); (exact oD)) | fail); all_goals infer_instance)))); dsimp only [setD, z0, z1]) | ((first | refine WL.caseP rfl rfl rfl (fun h => ?_) (fun h => ?_) | refine WL.caseN rfl rfl rfl (fun h => ?_) (fun h => ?_) | refine WL.caseB rfl rfl rfl (fun h => ?_) (fun h => ?_) | refine WD.caseP rfl rfl rfl (fun h => ?_) (fun h => ?_) | refine WD.caseN rfl rfl rfl (fun h => ?_) (fun h => ?_) | refine WD.caseB rfl rfl rfl (fun h => ?_) (fun h => ?_)) <;> (first | (exfalso; first | omega | contradiction) | (dsimp only [z0, z1]))) | (apply WC.condD; (exact oD); all_goals (intro h; try exact xD)) | refine WC.skip ?_ | refine WC.block ?_ | refine ThenD.n ?_)); all_goals (first | ((repeat clear hK); (repeat clear Kx))))
            all_goals try (exfalso; first | contradiction | omega)
            rw [← et]
            (refine ⟨(j + 1 + 1, vo2), ?_, by first | omega | (simp only; omega), rfl, ?_⟩; rotate_left; ((try dsimp only [upds, z0, z1]); repeat (first | exact LeF.nil | refine LeF.co (k := ?_))); (try dsimp only))
            omega
        · have hlti : ¬ (i : Int) < (ks.length : Int) := by omega
          obtain rfl : i = ks.length := by omega
          rw [List.take_length]
          generalize chosenI l ks = R at *
          (repeat' (first |  (refine WC.only 15 (Halt.go ?_)) | refine WL.nil ?_ | refine WC.seqK fun Kx hK => ?_ | (refine hK _ _ ?_; clear hK) | (refine Kont.skip ?_; clear hK) | refine WC.region ?_ | ((first | apply WL.opG | apply WD.op); (focus (first | exact wN | (apply SYG.yes; (exact wY); ((first | ((first | apply SY.move | apply SY.assign | apply SY.lss | apply SY.leq | apply SY.gtr | apply SY.geq | apply SY.eql | apply SY.neq | apply SY.not) <;> (exact oD)) | fail); all_goals infer_instance)))); dsimp only [setD, z0, z1]) | (apply WC.condD; (exact oD); all_goals (intro h; try exact xD)) | refine WC.exit ?_))
          all_goals try (exfalso; first | contradiction | omega)
          refine ⟨WC.keepS1 (k := 1) rfl (WC.freezeQ (t := 9) rfl ?_)⟩
          dsimp only [z0, z1]
          have hRl2 : R.length ≤ 32768 := by omega
          (repeat' (first | ((first | apply WL.opN | apply WD.opN); exact yF; dsimp only [setD, z0, z1]) | refine WL.nil ?_ | (refine hK _ _ ?_; clear hK) | refine WC.region ?_ | refine WC.block ?_))
          all_goals try (exfalso; first | contradiction | omega)
          (refine WC.loopU (X := Nat) (fun d => [(12, dI ((d : Int) - 1)), (2, dA), (13, dA), (14, dA), (15, dA), (16, dA), (17, dA), (18, dA), (19, dA), (103, dA), (104, dA), (105, dA), (106, dA), (107, dA), (108, dA), (109, dA), (110, dA), (111, dA), (112, dA), (113, dA), (114, dA), (115, dA), (116, dA), (117, dA), (118, dA), (119, dA), (120, dA), (121, dA), (122, dA), (123, dA), (124, dA), (125, dA), (126, dA), (127, dA), (128, dA), (129, dA), (130, dA), (131, dA), (132, dA), (133, dA), (134, dA), (135, dA), (136, dA), (137, dA), (138, dA), (139, dA), (140, dA), (141, dA), (142, dA), (143, dA), (144, dA), (145, dA), (146, dA)]) (fun d => ([])) (fun d => R.length + 1 - d) (fun d => d ≤ R.length + 1) 0 ?start ?frame0 ?objs0 ?round)
          case start => exact Nat.zero_le _
          case frame0 => ((try dsimp only [upds, z0, z1]); repeat (first | exact LeF.nil | refine LeF.co (k := ?_)))
          case objs0 => rfl
          case round =>
            rintro d hd
            dsimp only [upds, z0, z1]
            by_cases hdl : d ≤ R.length
            · have hltd : (d : Int) - 1 < (R.length : Int) := by omega
              (repeat' (first | ((first | apply WL.opN | apply WD.opN); exact yF; dsimp only [setD, z0, z1]) | refine WL.nil ?_ | refine WC.seqK fun Kx hK => ?_ | (refine hK _ _ ?_; clear hK) | refine WC.region ?_ |  (refine WL.allocS (zs := [.int .i64 0, .slice none 0 0]) tzV (by decide) (by simp [Value.oneCell']) fun b2 => ?_; dsimp only [setD, z0, z1]) |  (refine WL.storeW tyV (OpD.t rfl) (OpD.t rfl) rfl rfl ?_; dsimp only [setD, z0, z1]) | ((first | apply WL.opG | apply WD.op); (focus (first | exact wN | (apply SYG.yes; (exact wY); ((first | (exact SY.mkA1 (OpD.t rfl)) | ((first | apply SY.move | apply SY.assign | apply SY.lss | apply SY.leq | apply SY.gtr | apply SY.geq | apply SY.eql | apply SY.neq | apply SY.not) <;> (exact oD)) | (apply SY.len; (exact oD); (exact nD); (exact uD)) | (apply SY.fldP0 clT; exact OpD.t rfl) | (apply SY.fldP1 clT; exact OpD.t rfl) | fail); all_goals infer_instance)))); dsimp only [setD, z0, z1]) | (apply WC.condD; (exact oD); all_goals (intro h; try exact xD)) | refine WC.skip ?_ | refine WC.block ?_))
              all_goals try (exfalso; first | contradiction | omega)
              refine WC.nilRow 25 Ints (WC.perm (List.Perm.swap _ _ _) ?_)
              (refine WC.loopU (X := Nat × Value) (fun x => [(116, dI (x.1 : Int)), (14, dA), (15, dA), (117, dA), (118, dA), (119, dA), (120, dA), (121, dA), (122, dA), (123, dA), (124, dA), (125, dA), (126, dA), (127, dA), (128, dA), (129, dA), (130, dA)]) (fun x => ([hStr b2 24 [dI (N : Int), dX x.2], hRow x.2 25 Ints (dropP R d x.1)])) (fun x => R.length - x.1) (fun x => x.1 ≤ R.length) (0, nilV) ?start ?frame0 ?objs0 ?round)
              case start => exact Nat.zero_le _
              case frame0 => ((try dsimp only [upds, z0, z1]); repeat (first | exact LeF.nil | refine LeF.co (k := ?_)))
              case objs0 => rw [dropP_zero]
              case round =>
                rintro ⟨k, vo⟩ hk
                simp only at hk
                dsimp only [upds, z0, z1]
                by_cases hkl : k < R.length
                · have hltk : (k : Int) < (R.length : Int) := by omega
                  have hln := dropP_len R d k
                  have h24 : ((dropP R d k).length + 1) * 24 ≤ 140737488355328 := by omega
                  by_cases hkd : k + 1 = d
                  · have hne : ¬ (k : Int) ≠ (d : Int) - 1 := by omega
                    have et := dropP_no hkl hkd
                    ((repeat' (first | ((first | apply WL.opN | apply WD.opN); exact yF; dsimp only [setD, z0, z1]) | refine WL.nil ?_ | refine WC.seqK fun Kx hK => ?_ | (refine hK _ _ ?_; clear hK) | refine WC.region ?_ | ((first | apply WL.opG | apply WD.op); (focus (first | exact wN | (apply SYG.yes; (exact wY); ((first | (refine SY.ix (R := Ints) (_gR := inferInstance) (k := k) elSi (OpD.t rfl) (OpD.t rfl) hkl) | ((first | apply SY.move | apply SY.assign | apply SY.lss | apply SY.leq | apply SY.gtr | apply SY.geq | apply SY.eql | apply SY.neq | apply SY.not) <;> (exact oD)) | ((first | apply SY.add | apply SY.sub) <;> first | exact oD | omega) | fail); all_goals infer_instance)))); dsimp only [setD, z0, z1]) | (apply WC.condD; (exact oD); all_goals (intro h; try exact xD)) | (apply WC.condN; (exact oD); all_goals (intro h; try exact xD)) | refine WC.skip ?_ | refine WC.block ?_ | refine ThenD.n ?_)); all_goals (first | ((repeat clear hK); (repeat clear Kx))))
                    all_goals try (exfalso; first | contradiction | omega)
                    rw [← et]
                    (refine ⟨(k + 1, vo), ?_, by first | omega | (simp only; omega), rfl, ?_⟩; rotate_left; ((try dsimp only [upds, z0, z1]); repeat (first | exact LeF.nil | refine LeF.co (k := ?_))); (try dsimp only))
                    omega
                  · have hne : (k : Int) ≠ (d : Int) - 1 := by omega
                    have et := dropP_yes hkl hkd
                    ((repeat' (first | ((first | apply WL.opN | apply WD.opN); exact yF; dsimp only [setD, z0, z1]) | refine WL.nil ?_ | refine WC.seqK fun Kx hK => ?_ | (refine hK _ _ ?_; clear hK) | refine WC.region ?_ |  (refine WL.rowIs (mAt 0 rfl) fun hvv => WL.perm (List.Perm.swap _ _ _) ?_; refine WL.ofSW (SW.storeS tySS (OpD.t rfl) (OpD.t rfl) (shape_X hvv) (by simp)) fun _ => ?_; dsimp only [setD, z0, z1]) | ((apply (WL.perm (List.Perm.swap _ _ _)); (first | apply WL.pushK | apply WL.push1); (exact eD); exact OpD.t rfl; (exact oD); (intro _; exact hD); (exact (by simp)); (exact (by simp)); (first | exact ⟨by decide, by decide⟩ | skip); decide; (exact lD); (intro _; dsimp only [setD, z0, z1]); all_goals (try infer_instance))) | ((first | apply WL.opG | apply WD.op); (focus (first | exact wN | (apply SYG.yes; (exact wY); ((first | (refine SY.ix (R := Ints) (_gR := inferInstance) (k := k) elSi (OpD.t rfl) (OpD.t rfl) hkl) | (refine SY.fldS strC (OpD.t rfl) (by decide)) | (apply SY.loadS; exact tySS; exact OpD.t rfl; exact mAt 0 rfl; rfl) | ((first | apply SY.move | apply SY.assign | apply SY.lss | apply SY.leq | apply SY.gtr | apply SY.geq | apply SY.eql | apply SY.neq | apply SY.not) <;> (exact oD)) | ((first | apply SY.add | apply SY.sub) <;> first | exact oD | omega) | fail); all_goals infer_instance)))); dsimp only [setD, z0, z1]) | (apply WC.condD; (exact oD); all_goals (intro h; try exact xD)) | (apply WC.condN; (exact oD); all_goals (intro h; try exact xD)) | refine WC.skip ?_ | refine WC.block ?_ | refine ThenD.n ?_)); all_goals (first | ((repeat clear hK); (repeat clear Kx))))
                    all_goals try (exfalso; first | contradiction | omega)
                    try rw [← et]
                    (refine ⟨(k + 1, _), ?_, by first | omega | (simp only; omega), rfl, ?_⟩; rotate_left; ((try dsimp only [upds, z0, z1]); repeat (first | exact LeF.nil | refine LeF.co (k := ?_))); (try dsimp only))
                    omega
                · have hltk : ¬ (k : Int) < (R.length : Int) := by omega
                  obtain rfl : k = R.length := by omega
                  have hDd := hSv d
                  have hud := hDu d hdl
                  generalize dropP R d R.length = S at *
                  (repeat' (first |  (refine WC.only 25 (Halt.go ?_)) | refine WL.nil ?_ | refine WC.seqK fun Kx hK => ?_ | (refine hK _ _ ?_; clear hK) | (refine Kont.skip ?_; clear hK) | refine WC.region ?_ | ((first | apply WL.opG | apply WD.op); (focus (first | exact wN | (apply SYG.yes; (exact wY); ((first | ((first | apply SY.move | apply SY.assign | apply SY.lss | apply SY.leq | apply SY.gtr | apply SY.geq | apply SY.eql | apply SY.neq | apply SY.not) <;> (exact oD)) | fail); all_goals infer_instance)))); dsimp only [setD, z0, z1]) | (apply WC.condD; (exact oD); all_goals (intro h; try exact xD)) | refine WC.exit ?_))
                  all_goals try (exfalso; first | contradiction | omega)
                  refine ⟨WC.keepS1 (k := 1) rfl (WC.freezeQ (t := 13) rfl ?_)⟩
                  dsimp only [z0, z1]
                  (repeat' (first |  (refine WC.only 26 (Halt.go ?_)) | ((first | apply WL.opN | apply WD.opN); exact yF; dsimp only [setD, z0, z1]) | refine WL.nil ?_ | refine WC.seqK fun Kx hK => ?_ | (refine hK _ _ ?_; clear hK) | refine WC.region ?_ |  (refine WL.callC (hp1 := []) (caps := []) hDd Try.call16 OpD.f (ArgsD.cons (OpD.t rfl) ArgsD.nil) ?_; rintro d' hp2 ⟨rfl, e2, e3, e4, e5, rfl, v, m, p, rfl, rfl, rfl, rfl, hR1⟩; dsimp only [setD, z0, z1, List.nil_append]) | ((first | apply WL.opG | apply WD.op); (focus (first | exact wN | (apply SYG.yes; (exact wY); ((first | (apply SY.extract; (exact oD); rfl) | fail); all_goals infer_instance)))); dsimp only [setD, z0, z1])))
                  all_goals try (exfalso; first | contradiction | omega)
                  refine ⟨?_⟩
                  have hb1 : decide (v = 2) = decide ((d : Int) - 1 < 0) := by
                    rcases hR1.is with ⟨rfl, _, q⟩ | ⟨rfl, _, _, q, _⟩
                    · have hf : unsB N S = false := by
                        cases hx : unsB N S with
                        | false => rfl
                        | true => rw [unsB_iff.1 hx] at q; cases q
                      rw [hf] at hud
                      have : d ≠ 0 := fun q => by rw [q] at hud; cases hud
                      rw [decide_eq_false (by decide), decide_eq_false (by omega)]
                    · rw [q] at hud
                      have : d = 0 := of_decide_eq_true hud.symm
                      rw [decide_eq_true rfl, decide_eq_true (by omega)]
                  clear hR1
                  ((repeat' (first | ((first | apply WL.opN | apply WD.opN); exact yF; dsimp only [setD, z0, z1]) | refine WL.nil ?_ | (refine hK _ _ ?_; clear hK) | refine WC.region ?_ | ((first | apply WL.opG | apply WD.op); (focus (first | exact wN | (apply SYG.yes; (exact wY); ((first | ((first | apply SY.move | apply SY.assign | apply SY.lss | apply SY.leq | apply SY.gtr | apply SY.geq | apply SY.eql | apply SY.neq | apply SY.not) <;> (exact oD)) | ((first | apply SY.add | apply SY.sub) <;> first | exact oD | omega) | (apply SY.neqB; (exact oD); (exact oD); exact nqBB) | (apply SY.pickF; (exact oD); (with_reducible rfl); (exact oD)) | fail); all_goals infer_instance)))); dsimp only [setD, z0, z1]) | ((first | refine WL.caseP rfl rfl rfl (fun h => ?_) (fun h => ?_) | refine WL.caseN rfl rfl rfl (fun h => ?_) (fun h => ?_) | refine WL.caseB rfl rfl rfl (fun h => ?_) (fun h => ?_) | refine WD.caseP rfl rfl rfl (fun h => ?_) (fun h => ?_) | refine WD.caseN rfl rfl rfl (fun h => ?_) (fun h => ?_) | refine WD.caseB rfl rfl rfl (fun h => ?_) (fun h => ?_)) <;> (first | (exfalso; first | omega | contradiction) | (dsimp only [z0, z1]))) | (apply WC.condN; (exact oD); all_goals (intro h; try exact xD)) | refine WC.skip ?_ | refine ThenD.n ?_)); all_goals (first | ((repeat clear hK); (repeat clear Kx))))
                  all_goals try (exfalso; first | contradiction | omega)
                  (refine ⟨d + 1, ?_, by first | omega | (simp only; omega), rfl, ?_⟩; rotate_left; ((try dsimp only [upds, z0, z1]); repeat (first | exact LeF.nil | refine LeF.co (k := ?_))); (try dsimp only))
                  omega
            · have hltd : ¬ (d : Int) - 1 < (R.length : Int) := by omega
              ((repeat' (first | ((first | apply WL.opN | apply WD.opN); exact yF; dsimp only [setD, z0, z1]) | refine WL.nil ?_ | refine WC.seqK fun Kx hK => ?_ | (refine hK _ _ ?_; clear hK) | (refine Kont.skip ?_; clear hK) | refine WC.region ?_ | ((first | apply WL.opG | apply WD.op); (focus (first | exact wN | (apply SYG.yes; (exact wY); ((first | (apply SY.call (haw) Try.call21; (exact aD)) | ((first | apply SY.move | apply SY.assign | apply SY.lss | apply SY.leq | apply SY.gtr | apply SY.geq | apply SY.eql | apply SY.neq | apply SY.not) <;> (exact oD)) | (apply SY.len; (exact oD); (exact nD); (exact uD)) | (apply SY.fldP0 clT; exact OpD.t rfl) | (apply SY.fldP1 clT; exact OpD.t rfl) | (apply SY.pickT; (exact oD); (with_reducible rfl); (exact oD)) | fail); all_goals infer_instance)))); dsimp only [setD, z0, z1]) | ((first | refine WL.caseP rfl rfl rfl (fun h => ?_) (fun h => ?_) | refine WL.caseN rfl rfl rfl (fun h => ?_) (fun h => ?_) | refine WL.caseB rfl rfl rfl (fun h => ?_) (fun h => ?_) | refine WD.caseP rfl rfl rfl (fun h => ?_) (fun h => ?_) | refine WD.caseN rfl rfl rfl (fun h => ?_) (fun h => ?_) | refine WD.caseB rfl rfl rfl (fun h => ?_) (fun h => ?_)) <;> (first | (exfalso; first | omega | contradiction) | (dsimp only [z0, z1]))) | (apply WC.condD; (exact oD); all_goals (intro h; try exact xD)) | refine WC.ret ?_ | refine WC.exit ?_)); all_goals (first | ((repeat clear hK); (repeat clear Kx))))
              all_goals try (exfalso; first | contradiction | omega)
              (refine ⟨trivial, _, rfl, ?_⟩; exact fD)
end Go.Proofs.Ytpiidgcljlalmaa
