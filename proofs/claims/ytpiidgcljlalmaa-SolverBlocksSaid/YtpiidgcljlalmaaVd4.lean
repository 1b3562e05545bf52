/- Part 4: walks by contracts, and plain laws. -/
import Derived.Test.YtpiidgcljlalmaaVd3
set_option linter.unusedVariables false
set_option linter.unusedSimpArgs false
set_option linter.unusedSectionVars false
namespace Go.Proofs.Ytpiidgcljlalmaa
open Go.RowKit
open S43 (up up_eq up_ne)
abbrev aO (b6 bm : Nat) (a : List Int) : List HObj := [hCell b6 106 1 false (dX (.map (some bm))), hG bm kvI is64 kvI (pAs (asF a))]
set_option linter.unusedSimpArgs false
set_option linter.unusedVariables false
set_option maxHeartbeats 2000000
set_option maxRecDepth 100000
set_option maxHeartbeats 8000000 in
theorem assignment_ok (V : Nat) (l : List (List Int)) (a : List Int) (hV : V ≤ 4096) (hr : IRR l) (hck : checkI (V : Int) l = 0) (hA : Asn V a) :
    CallC Try.prog 85 ([dS Cls ((V : Int), l), dS Ints a] ++ ([] : List Value).map dX) [] (fun d hp2 => ∃ e2 e3, d = dT [e2, e3] ∧ ∃ bm, e2 = dX (.map (some bm)) ∧ e3 = dI 0 ∧ hp2 = [hG bm kvI is64 kvI (pAs (asF a))]) := by
  have h1 := check43_p (V : Int) l hr
  rw [hck] at h1
  have hal := hA.len
  refine CallC.intro2L Try.func85 rfl rfl (fun hp => ?_)
  -- @kinds clauses.assignment
  simp only [Try.ntmps85, List.length_cons, List.length_nil, List.length_append, List.length_map, Nat.reduceAdd, Nat.reduceSub, List.replicate_succ, List.replicate_zero, List.cons_append, List.nil_append, List.map_cons, List.map_nil, List.append_assoc]
  (repeat' (first | (apply WL.opN; exact yF; dsimp only [setD, z0, z1]) | refine WL.nil ?_ | refine WC.seqK fun Kx hK => ?_ | (refine hK _ _ ?_; clear hK) | refine WC.region ?_ |  (refine WL.makeG (dst := some 16) kvI is64 kvI (pAs fun _ => 0) (fun _ => rfl) fun bm => ?_; dsimp only [setD, z0, z1]) | (apply WL.opG; (focus (first | exact wN | (apply SYG.yes; (exact wY); ((first | (apply SY.call (h1) Try.call38; (exact aD)) | ((first | apply SY.move | apply SY.assign | apply SY.lss | apply SY.gtr | apply SY.neq) <;> (exact oD)) | (apply SY.len; (exact oD); (exact nD); (exact uD)) | (apply SY.box; (exact oD); (exact hD)) | fail); all_goals infer_instance)))); dsimp only [setD, z0, z1]) | (apply WC.condN; (exact oD); all_goals (intro h; try exact xD)) | refine WC.skip ?_ | refine WC.block ?_))
  all_goals try (exfalso; first | contradiction | omega)
  (refine WC.loopU (X := Nat) (fun k => [(19, dI (k : Int)), (4, dA), (5, dA), (9, dA), (10, dA), (20, dA), (21, dA), (22, dA), (23, dA), (24, dA), (25, dA), (26, dA), (27, dA), (28, dA), (29, dA), (30, dA), (31, dA), (32, dA), (33, dA), (34, dA), (35, dA), (36, dA), (37, dA), (38, dA), (39, dA), (40, dA)]) (fun k => (hG bm kvI is64 kvI (pAs (asF (a.take k))) :: hp)) (fun k => a.length - k) (fun k => k ≤ a.length) 0 ?start ?frame0 ?objs0 ?round)
  case start => exact Nat.zero_le _
  case frame0 => ((try dsimp only [upds, z0, z1]); repeat (first | exact LeF.nil | refine LeF.co (k := ?_)))
  case objs0 => rfl
  case round =>
    rintro k hk
    dsimp only [upds, z0, z1]
    by_cases hkl : k < a.length
    · have hlt : (k : Int) < (a.length : Int) := by omega
      obtain ⟨x, hx⟩ : ∃ x, a[k] = x := ⟨_, rfl⟩
      have hxr := hA.rng x (by rw [← hx]; exact List.getElem_mem hkl)
      have hv := variable41_p x
      rw [pvar_abs hV hxr.2] at hv
      have h6 : is64 ((x.natAbs : Nat) : Int) := by unfold is64; omega
      have hg1 : ¬ ((x.natAbs : Nat) : Int) < 1 := by omega
      have hg2 : ¬ ((x.natAbs : Nat) : Int) > (V : Int) := by omega
      have hpre : Asn V (a.take k ++ [x]) := by
        rw [← hx, ← List.take_succ_eq_append_getElem hkl]
        exact ⟨fun y hy => hA.rng y (List.mem_of_mem_take hy), hA.dis.sublist (List.take_sublist _ _)⟩
      have hd := (List.pairwise_append.1 hpre.dis).2.2
      have h0 : asF (a.take k) x.natAbs = 0 := (asF_spec _ _ rfl hpre.front x hxr.1).2.2 ⟨fun q => hd x q x (by simp) rfl, fun q => hd (-x) q x (by simp) (Int.natAbs_neg x)⟩
      have et : asF (a.take (k + 1)) = up (asF (a.take k)) x.natAbs x := by rw [List.take_succ_eq_append_getElem hkl, hx, asF_snoc]
      ((repeat' (first | (apply WL.opN; exact yF; dsimp only [setD, z0, z1]) | refine WL.nil ?_ | refine WC.seqK fun Kx hK => ?_ | (refine hK _ _ ?_; clear hK) | refine WC.region ?_ |  (refine WL.ofSW (SW.at 0 rfl fun q => SW.updG (pAs (up (asF (a.take k)) x.natAbs x)) mapT_a keyT_I (OpD.t rfl) (OpD.t rfl) isI (OpD.t rfl) isI h6 pAs_up) fun _ => ?_; dsimp only [setD, z0, z1]) | (apply WL.opG; (focus (first | exact wN | (apply SYG.yes; (exact wY); ((first | (refine SY.ixE1 (R := RI) (_gR := inferInstance) elI hkl hx (OpD.t rfl) (OpD.t rfl)) | (apply SY.call (hv) Try.call45; (exact aD)) | (exact SY.asG h0 (OpD.t rfl) (mAt 0 rfl) (OpD.t rfl) h6) | ((first | apply SY.move | apply SY.assign | apply SY.lss | apply SY.gtr | apply SY.neq) <;> (exact oD)) | ((first | apply SY.add) <;> first | exact oD | omega) | (apply SY.load; (exact tD); (exact oD)) | (apply SY.fldP0 clT; exact OpD.t rfl) | (apply SY.fldP1 clT; exact OpD.t rfl) | (apply SY.pickF; (exact oD); (with_reducible rfl); (exact oD)) | fail); all_goals infer_instance)))); dsimp only [setD, z0, z1]) | ((first | refine WL.caseP rfl rfl rfl (fun h => ?_) (fun h => ?_) | refine WL.caseN rfl rfl rfl (fun h => ?_) (fun h => ?_) | refine WL.caseB rfl rfl rfl (fun h => ?_) (fun h => ?_)) <;> (first | (exfalso; first | omega | contradiction) | (dsimp only [z0, z1]))) | (apply WC.condD; (exact oD); all_goals (intro h; try exact xD)) | (apply WC.condN; (exact oD); all_goals (intro h; try exact xD)) | refine WC.skip ?_ | refine WC.block ?_ | refine ThenD.n ?_)); all_goals (first | ((repeat clear hK); (repeat clear Kx))))
      all_goals try (exfalso; first | contradiction | omega)
      rw [← et]
      (refine ⟨k + 1, ?_, by first | omega | (simp only; omega), rfl, ?_⟩; rotate_left; ((try dsimp only [upds, z0, z1]); repeat (first | exact LeF.nil | refine LeF.co (k := ?_))); (try dsimp only))
      omega
    · have hlt : ¬ (k : Int) < (a.length : Int) := by omega
      obtain rfl : k = a.length := by omega
      rw [List.take_length]
      ((repeat' (first | (apply WL.opN; exact yF; dsimp only [setD, z0, z1]) | refine WL.nil ?_ | refine WC.seqK fun Kx hK => ?_ | (refine hK _ _ ?_; clear hK) | (refine Kont.skip ?_; clear hK) | refine WC.region ?_ | (apply WL.opG; (focus (first | exact wN | (apply SYG.yes; (exact wY); ((first | ((first | apply SY.move | apply SY.assign | apply SY.lss | apply SY.gtr | apply SY.neq) <;> (exact oD)) | fail); all_goals infer_instance)))); dsimp only [setD, z0, z1]) | (apply WC.condD; (exact oD); all_goals (intro h; try exact xD)) | refine WC.ret ?_ | refine WC.exit ?_)); all_goals (first | ((repeat clear hK); (repeat clear Kx))))
      all_goals try (exfalso; first | contradiction | omega)
      exact ⟨trivial, _, _, dX (.map (some bm)), dI 0, [hG bm kvI is64 kvI (pAs (asF a))], rfl, rfl, Dat.le_refl _, le_ii rfl, rfl, bm, rfl, rfl, rfl⟩
theorem as1_c (V : Nat) (b6 bm : Nat) (a : List Int) (y : Int) (hV : V ≤ 4096) (hA : Asn V a) (hy : y ≠ 0 ∧ y.natAbs ≤ V) : CallC Try.prog 88 ([dI y] ++ [ptrN b6].map dX) (aO b6 bm a) (fun d hp2 => d = dB (decide (y ∈ a)) ∧ hp2 = aO b6 bm a) := by
  have hv := variable41_p y
  rw [pvar_abs hV hy.2] at hv
  have h6 : is64 ((y.natAbs : Nat) : Int) := by unfold is64; omega
  have hs := (asF_spec _ _ rfl hA y hy.1).1
  have he : decide (asF a y.natAbs = y) = decide (y ∈ a) := decide_eq_decide.2 hs
  rw [← he]
  (refine CallC.intro Try.func88 rfl rfl (fun hp => ?_); simp only [Try.ntmps88, List.length_cons, List.length_nil, List.length_append, List.length_map, Nat.reduceAdd, Nat.reduceSub, List.replicate_succ, List.replicate_zero, List.cons_append, List.nil_append, List.map_cons, List.map_nil, List.append_assoc])
  ((repeat' (first | ((first | apply WL.opN | apply WD.opN); exact yF; dsimp only [setD, z0, z1]) | refine WL.nil ?_ | refine WD.nil ?_ | refine WC.seqK fun Kx hK => ?_ | (refine hK _ _ ?_; clear hK) | refine WC.region ?_ | (apply WC.draw; kernel_rfl; kernel_rfl) | ((first | apply WL.opN | apply WD.opN); (focus ((first | (apply SY.loadH tyVa; exact OpD.t rfl; exact mAt 0 rfl) | (apply SY.call (hv) Try.call45; (exact aD)) | (exact SY.asG rfl (OpD.t rfl) (mAt 1 rfl) (OpD.t rfl) h6) | ((first | apply SY.move | apply SY.assign | apply SY.eql) <;> (exact oD)) | fail); all_goals infer_instance)); dsimp only [setD, z0, z1]) | refine WC.ret ?_)); all_goals (first | ((repeat clear hK); (repeat clear Kx))))
  all_goals exact ⟨trivial, _, aO b6 bm a, rfl, rfl, rfl, rfl⟩
theorem as2_c (V : Nat) (b6 bm : Nat) (a : List Int) (y : Int) (hV : V ≤ 4096) (hA : Asn V a) (hy : y ≠ 0 ∧ y.natAbs ≤ V) : CallC Try.prog 90 ([dI y] ++ [ptrN b6].map dX) (aO b6 bm a) (fun d hp2 => d = dT [dI y, dB (decide (y ∉ a ∧ -y ∉ a))] ∧ hp2 = aO b6 bm a) := by
  have hv := variable41_p y
  rw [pvar_abs hV hy.2] at hv
  have h6 : is64 ((y.natAbs : Nat) : Int) := by unfold is64; omega
  have hs := (asF_spec _ _ rfl hA y hy.1).2
  have he : decide (asF a y.natAbs = 0) = decide (y ∉ a ∧ -y ∉ a) := decide_eq_decide.2 hs
  rw [← he]
  refine CallC.intro2 Try.func90 rfl rfl (fun hp => ?_)
  -- @kinds clauses.Assign$1$2
  simp only [Try.ntmps90, List.length_cons, List.length_nil, List.length_append, List.length_map, Nat.reduceAdd, Nat.reduceSub, List.replicate_succ, List.replicate_zero, List.cons_append, List.nil_append, List.map_cons, List.map_nil, List.append_assoc]
  ((repeat' (first | ((first | apply WL.opN | apply WD.opN); exact yF; dsimp only [setD, z0, z1]) | refine WL.nil ?_ | refine WD.nil ?_ | refine WC.seqK fun Kx hK => ?_ | (refine hK _ _ ?_; clear hK) | refine WC.region ?_ | (apply WC.draw; kernel_rfl; kernel_rfl) | ((first | apply WL.opN | apply WD.opN); (focus ((first | (apply SY.loadH tyVa; exact OpD.t rfl; exact mAt 0 rfl) | (apply SY.call (hv) Try.call45; (exact aD)) | (exact SY.asG rfl (OpD.t rfl) (mAt 1 rfl) (OpD.t rfl) h6) | ((first | apply SY.move | apply SY.assign | apply SY.eql) <;> (exact oD)) | fail); all_goals infer_instance)); dsimp only [setD, z0, z1]) | refine WC.ret ?_)); all_goals (first | ((repeat clear hK); (repeat clear Kx))))
  all_goals exact ⟨trivial, _, _, aO b6 bm a, rfl, rfl, rfl, rfl, rfl⟩
def leftA (a c : List Int) : List Int := if trueI c a = true then [] else c.filter fun y => decide (y ∉ a ∧ -y ∉ a)
theorem any_true (a c : List Int) : (c.any fun y => decide (y ∈ a)) = trueI c a := by
  rw [Bool.eq_iff_iff, List.any_eq_true, trueI_iff]
  simp
set_option maxHeartbeats 4000000 in
theorem as3_c (V : Nat) (b6 bm : Nat) (a c : List Int) (hV : V ≤ 4096) (hA : Asn V a) (hc : ∀ y ∈ c, y ≠ 0 ∧ y.natAbs ≤ V) (hcl : c.length ≤ 1000000) : CallC Try.prog 87 ([dS Ints c] ++ [ptrN b6].map dX) (aO b6 bm a) (fun d hp2 => d = dT [dS Ints (leftA a c), dB (!trueI c a)] ∧ hp2 = aO b6 bm a) := by
  have h1 := containsD_c c hcl 88 [ptrN b6] Try.call88 (aO b6 bm a) (fun y => decide (y ∈ a)) (fun y hy => as1_c V b6 bm a y hV hA (hc y hy))
  rw [any_true] at h1
  have h2 := applyI_c c hcl 90 [ptrN b6] Try.call90 (aO b6 bm a) (fun y => decide (y ∉ a ∧ -y ∉ a)) (fun y hy => as2_c V b6 bm a y hV hA (hc y hy))
  have key : CallC Try.prog 87 ([dS Ints c] ++ [ptrN b6].map dX) (aO b6 bm a) (fun d hp2 => ∃ e2 e3, d = dT [e2, e3] ∧ e2 = dS Ints (leftA a c) ∧ e3 = dB (!trueI c a) ∧ hp2 = aO b6 bm a) := by
    refine CallC.intro2L Try.func87 rfl rfl (fun hp => ?_)
    -- @kinds clauses.Assign$1
    simp only [Try.ntmps87, List.length_cons, List.length_nil, List.length_append, List.length_map, Nat.reduceAdd, Nat.reduceSub, List.replicate_succ, List.replicate_zero, List.cons_append, List.nil_append, List.map_cons, List.map_nil, List.append_assoc]
    cases ht : trueI c a with
    | true =>
      rw [ht] at h1
      ((repeat' (first | (apply WL.opN; exact yF; dsimp only [setD, z0, z1]) | refine WL.nil ?_ | refine WC.seqK fun Kx hK => ?_ | (refine hK _ _ ?_; clear hK) | refine WC.region ?_ |  (refine WL.callC (hp1 := aO b6 bm a) (caps := []) h1 Try.call43 OpD.f (ArgsD.cons (OpD.t rfl) (ArgsD.cons (OpD.t rfl) ArgsD.nil)) ?_; rintro d' hp2 ⟨rfl, rfl⟩; dsimp only [setD, z0, z1, List.cons_append, List.nil_append]) | (apply WL.opN; (focus ((first | (exact SY.makeX (vs := [ptrN b6]) (ArgsX.one (OpD.t rfl))) | fail); all_goals infer_instance)); dsimp only [setD, z0, z1]) | (apply WC.condT; (exact oD); (with_reducible rfl)) | refine WC.ret ?_ | refine ThenD.r ?_)); all_goals (first | ((repeat clear hK); (repeat clear Kx))))
      all_goals try (exfalso; first | contradiction | omega)
      exact ⟨trivial, _, _, dS Ints (leftA a c), dB (!true), aO b6 bm a, rfl, rfl, by unfold leftA; rw [if_pos ht]; exact Dat.le_nil, Dat.le_refl _, rfl, rfl, rfl, rfl⟩
    | false =>
      rw [ht] at h1
      ((repeat' (first | (apply WL.opN; exact yF; dsimp only [setD, z0, z1]) | refine WL.nil ?_ | refine WC.seqK fun Kx hK => ?_ | (refine hK _ _ ?_; clear hK) | refine WC.region ?_ |  (refine WL.callC (hp1 := aO b6 bm a) (caps := []) h1 Try.call43 OpD.f (ArgsD.cons (OpD.t rfl) (ArgsD.cons (OpD.t rfl) ArgsD.nil)) ?_; rintro d' hp2 ⟨rfl, rfl⟩; dsimp only [setD, z0, z1, List.cons_append, List.nil_append]) |  (refine WL.callC (hp1 := aO b6 bm a) (caps := []) h2 Try.call89 OpD.f (ArgsD.cons (OpD.t rfl) (ArgsD.cons (OpD.t rfl) ArgsD.nil)) ?_; rintro d' hp2 ⟨vr, rfl, rfl⟩; dsimp only [setD, z0, z1, List.cons_append, List.nil_append]; refine WL.keep1 (s := 10) rfl ?_; dsimp only [z0, z1]) | (apply WL.opN; (focus ((first | (exact SY.makeX (vs := [ptrN b6]) (ArgsX.one (OpD.t rfl))) | fail); all_goals infer_instance)); dsimp only [setD, z0, z1]) | (apply WC.condF; (exact oD); (with_reducible rfl)) | refine WC.skip ?_ | refine WC.ret ?_)); all_goals (first | ((repeat clear hK); (repeat clear Kx))))
      all_goals try (exfalso; first | contradiction | omega)
      exact ⟨trivial, _, _, dS Ints (leftA a c), dB (!false), aO b6 bm a, rfl, rfl, by unfold leftA; rw [if_neg (by rw [ht]; decide)]; exact Dat.le_refl _, Dat.le_refl _, rfl, rfl, rfl, rfl⟩
  exact key.monoK fun d hp2 ⟨e2, e3, h3, h4, h5, h6⟩ => ⟨by rw [h3, h4, h5], h6⟩
def leftR (l : List (List Int)) (a : List Int) : List (List Int) := (l.filter fun c => !trueI c a).map (leftA a)
theorem leftR_take {l : List (List Int)} {a : List Int} {i : Nat} (h : i < l.length) : leftR (l.take (i + 1)) a = leftR (l.take i) a ++ if (!trueI l[i] a) = true then [leftA a l[i]] else [] := by
  unfold leftR
  rw [filt_take h, List.map_append]
  congr 1
  split <;> rfl
theorem leftR_len (l : List (List Int)) (a : List Int) : (leftR l a).length ≤ l.length := by unfold leftR; rw [List.length_map]; exact List.length_filter_le _ _
set_option maxHeartbeats 4000000 in
theorem applyR_c (V : Nat) (b6 bm : Nat) (a : List Int) (l : List (List Int)) (hV : V ≤ 4096) (hA : Asn V a) (hl : ∀ c ∈ l, ∀ y ∈ c, y ≠ 0 ∧ y.natAbs ≤ V) (hcl : ∀ c ∈ l, c.length ≤ 1000000) (hll : l.length ≤ 1000000) :
    CallC Try.prog 86 ([dS Rows l, dX (.func (.func 87) #[] #[ptrN b6])] ++ ([] : List Value).map dX) (aO b6 bm a) (fun d hp2 => ∃ v, d = dX v ∧ hp2 = hRow v 25 Ints (leftR l a) :: aO b6 bm a) := by
  (refine CallC.intro Try.func86 rfl rfl (fun hp => ?_); simp only [Try.ntmps86, List.length_cons, List.length_nil, List.length_append, List.length_map, Nat.reduceAdd, Nat.reduceSub, List.replicate_succ, List.replicate_zero, List.cons_append, List.nil_append, List.map_cons, List.map_nil, List.append_assoc])
  refine WC.nilRow 25 Ints ?_
  (repeat' (first | (apply WL.opN; exact yF; dsimp only [setD, z0, z1]) | refine WL.nil ?_ | refine WC.seqK fun Kx hK => ?_ | (refine hK _ _ ?_; clear hK) | refine WC.region ?_ | (apply WL.opN; (focus ((first | (apply SY.len; (exact oD); (exact nD); (exact uD)) | fail); all_goals infer_instance)); dsimp only [setD, z0, z1]) | refine WC.block ?_))
  (refine WC.loopU (X := Nat × Value) (fun z => [(12, dI (z.1 : Int)), (5, dX z.2), (7, dA), (8, dA), (9, dA), (13, dA), (14, dA), (15, dA), (16, dA), (17, dA), (18, dA), (19, dA), (20, dA), (21, dA), (22, dA), (23, dA), (24, dA), (25, dA), (26, dA), (27, dA)]) (fun z => (hRow z.2 25 Ints (leftR (l.take z.1) a) :: (aO b6 bm a ++ hp))) (fun z => l.length - z.1) (fun z => z.1 ≤ l.length) (0, nilV) ?start ?frame0 ?objs0 ?round)
  case start => exact Nat.zero_le _
  case frame0 => ((try dsimp only [upds, z0, z1]); repeat (first | exact LeF.nil | refine LeF.co (k := ?_)))
  case objs0 => rfl
  case round =>
    rintro ⟨i, vo⟩ hi
    simp only at hi
    dsimp only [upds, z0, z1]
    by_cases hin : i < l.length
    · have hlt : (i : Int) < (l.length : Int) := by omega
      have hC := (as3_c V b6 bm a l[i] hV hA (hl _ (List.getElem_mem hin)) (hcl _ (List.getElem_mem hin))).front (hRow vo 25 Ints (leftR (l.take i) a))
      have et := leftR_take (a := a) hin
      have hfl : (leftR (l.take i) a).length ≤ l.length := Nat.le_trans (leftR_len _ _) (by rw [List.length_take]; omega)
      have h24 : ((leftR (l.take i) a).length + 1) * 24 ≤ 140737488355328 := by omega
      cases hq : trueI l[i] a with
      | false =>
        rw [hq] at hC et
        simp only [Bool.not_false, if_true] at et
        ((repeat' (first | (apply WL.opN; exact yF; dsimp only [setD, z0, z1]) | refine WL.nil ?_ | refine WC.seqK fun Kx hK => ?_ | (refine hK _ _ ?_; clear hK) | refine WC.region ?_ |  (refine WL.callC (hp1 := hRow vo 25 Ints (leftR (l.take i) a) :: aO b6 bm a) (caps := [ptrN b6]) hC Try.call87 (OpD.t rfl) (ArgsD.cons (OpD.t rfl) ArgsD.nil) ?_; rintro d' hp2 ⟨rfl, rfl⟩; dsimp only [setD, z0, z1, List.cons_append]) | ((first | apply WL.pushK | apply WL.push1); (exact eD); exact OpD.t rfl; (exact oD); (intro _; exact hD); (exact (by simp)); (exact (by simp)); (first | exact ⟨by decide, by decide⟩ | skip); decide; (exact lD); (intro _; dsimp only [setD, z0, z1]); all_goals (try infer_instance)) | (apply WL.opN; (focus ((first | (refine SY.ix (R := Ints) (_gR := inferInstance) (k := i) elSi (OpD.t rfl) (OpD.t rfl) hin) | ((first | apply SY.move | apply SY.assign | apply SY.lss) <;> (exact oD)) | ((first | apply SY.add) <;> first | exact oD | omega) | (apply SY.extract; (exact oD); rfl) | fail); all_goals infer_instance)); dsimp only [setD, z0, z1]) | (apply WC.condD; (exact oD); all_goals (intro h; try exact xD)) | (apply WC.condNB; (exact oD); all_goals (intro h; try exact xD)) | refine WC.skip ?_ | refine WC.block ?_ | refine ThenD.n ?_)); all_goals (first | ((repeat clear hK); (repeat clear Kx))))
        all_goals try (exfalso; first | contradiction | omega)
        rw [← et]
        (refine ⟨(i + 1, _), ?_, by first | omega | (simp only; omega), rfl, ?_⟩; rotate_left; ((try dsimp only [upds, z0, z1]); repeat (first | exact LeF.nil | refine LeF.co (k := ?_))); (try dsimp only))
        omega
      | true =>
        rw [hq] at hC et
        simp only [Bool.not_true, Bool.false_eq_true, if_false, List.append_nil] at et
        ((repeat' (first | (apply WL.opN; exact yF; dsimp only [setD, z0, z1]) | refine WL.nil ?_ | refine WC.seqK fun Kx hK => ?_ | (refine hK _ _ ?_; clear hK) | refine WC.region ?_ |  (refine WL.callC (hp1 := hRow vo 25 Ints (leftR (l.take i) a) :: aO b6 bm a) (caps := [ptrN b6]) hC Try.call87 (OpD.t rfl) (ArgsD.cons (OpD.t rfl) ArgsD.nil) ?_; rintro d' hp2 ⟨rfl, rfl⟩; dsimp only [setD, z0, z1, List.cons_append]) | (apply WL.opN; (focus ((first | (refine SY.ix (R := Ints) (_gR := inferInstance) (k := i) elSi (OpD.t rfl) (OpD.t rfl) hin) | ((first | apply SY.move | apply SY.assign | apply SY.lss) <;> (exact oD)) | ((first | apply SY.add) <;> first | exact oD | omega) | (apply SY.extract; (exact oD); rfl) | fail); all_goals infer_instance)); dsimp only [setD, z0, z1]) | (apply WC.condD; (exact oD); all_goals (intro h; try exact xD)) | (apply WC.condNB; (exact oD); all_goals (intro h; try exact xD)) | refine WC.skip ?_ | refine WC.block ?_ | refine ThenD.n ?_)); all_goals (first | ((repeat clear hK); (repeat clear Kx))))
        all_goals try (exfalso; first | contradiction | omega)
        rw [← et]
        (refine ⟨(i + 1, vo), ?_, by first | omega | (simp only; omega), rfl, ?_⟩; rotate_left; ((try dsimp only [upds, z0, z1]); repeat (first | exact LeF.nil | refine LeF.co (k := ?_))); (try dsimp only))
        omega
    · have hlt : ¬ (i : Int) < (l.length : Int) := by omega
      obtain rfl : i = l.length := by omega
      rw [List.take_length]
      ((repeat' (first | (apply WL.opN; exact yF; dsimp only [setD, z0, z1]) | refine WL.nil ?_ | refine WC.seqK fun Kx hK => ?_ | (refine hK _ _ ?_; clear hK) | (refine Kont.skip ?_; clear hK) | refine WC.region ?_ | (apply WL.opN; (focus ((first | ((first | apply SY.move | apply SY.assign | apply SY.lss) <;> (exact oD)) | fail); all_goals infer_instance)); dsimp only [setD, z0, z1]) | (apply WC.condD; (exact oD); all_goals (intro h; try exact xD)) | refine WC.ret ?_ | refine WC.exit ?_)); all_goals (first | ((repeat clear hK); (repeat clear Kx))))
      all_goals try (exfalso; first | contradiction | omega)
      exact ⟨trivial, _, hRow vo 25 Ints (leftR l a) :: aO b6 bm a, rfl, rfl, vo, rfl, rfl⟩
end Go.Proofs.Ytpiidgcljlalmaa
