/- Part 33: walks by contracts, and plain laws. -/
import Derived.Test.YtpiidgcljlalmaaVa32
set_option linter.unusedVariables false
set_option linter.unusedSimpArgs false
set_option linter.unusedSectionVars false
namespace Go.Proofs.Ytpiidgcljlalmaa
open Go.RowKit
set_option linter.unusedSimpArgs false
set_option linter.unusedVariables false
set_option maxHeartbeats 2000000
set_option maxRecDepth 100000
theorem wrong1_p (c : List Int) : Fn Try.prog 94 [dS Ints c] (dB (decide (c.length = 0))) := by
  (refine Fn.intro1 Try.func94 rfl rfl ?_; simp only [Try.ntmps94, List.length_cons, List.length_nil, Nat.reduceAdd, Nat.reduceSub, List.replicate_succ, List.replicate_zero, List.cons_append, List.nil_append])
  ((repeat' (first | (apply WL.opN; exact yF; dsimp only [setD, z0, z1]) | refine WL.nil ?_ | refine WC.seqK fun Kx hK => ?_ | (refine hK _ _ ?_; clear hK) | refine WC.region ?_ | (apply WL.opN; (focus ((first | ((first | apply SY.move | apply SY.assign | apply SY.eql) <;> (exact oD)) | (apply SY.len; (exact oD); (exact nD); (exact uD)) | fail); all_goals infer_instance)); dsimp only [setD, z0, z1]) | refine WC.ret ?_)); all_goals (first | ((repeat clear hK); (repeat clear Kx))))
  all_goals ((refine ⟨trivial, _, rfl, ?_⟩; refine FinD.b ?_); (try (rw [Bool.eq_iff_iff]; simp)))
theorem wrong_p (l : List (List Int)) : Fn Try.prog 71 [dS Rows l] (dB (emptyC l)) := by
  (refine Fn.intro1 Try.func71 rfl rfl ?_; simp only [Try.ntmps71, List.length_cons, List.length_nil, Nat.reduceAdd, Nat.reduceSub, List.replicate_succ, List.replicate_zero, List.cons_append, List.nil_append])
  ((repeat' (first | (apply WL.opN; exact yF; dsimp only [setD, z0, z1]) | refine WL.nil ?_ | refine WC.seqK fun Kx hK => ?_ | (refine hK _ _ ?_; clear hK) | refine WC.region ?_ | (apply WL.opN; (focus ((first | (apply SY.call (cntR_p l (fun c => decide (c.length = 0))) Try.call33; exact ArgsD.cons (OpD.t rfl) (ArgsD.cons ⟨le_fun Try.call94 fun x => wrong1_p x⟩ ArgsD.nil)) | fail); all_goals infer_instance)); dsimp only [setD, z0, z1]) | refine WC.ret ?_)); all_goals (first | ((repeat clear hK); (repeat clear Kx))))
  all_goals ((refine ⟨trivial, _, rfl, ?_⟩; exact fD))
set_option maxHeartbeats 8000000 in
theorem deleteF_c (v : Value) (xs : List Int) (hxl : xs.length ≤ 1000000) (gf : FuncId) (caps : List Value) (he : Enters Try.prog gf) (O : List HObj) (p : Int → Bool)
    (hcl : ∀ x ∈ xs, CallC Try.prog gf ([dI x] ++ caps.map dX) O (fun d hp2 => d = dB (p x) ∧ hp2 = O)) :
    CallC Try.prog 96 ([dX v, dX (.func (.func gf) #[] caps.toArray)] ++ ([] : List Value).map dX) (hRow v tI RI xs :: O) (fun d hp2 => ∃ v', d = dX v' ∧ hp2 = hRow v' tI RI (xs.filter fun x => !p x) :: O) := by
  (refine CallC.intro Try.func96 rfl rfl (fun hp => ?_); simp only [Try.ntmps96, List.length_cons, List.length_nil, List.length_append, List.length_map, Nat.reduceAdd, Nat.reduceSub, List.replicate_succ, List.replicate_zero, List.cons_append, List.nil_append, List.map_cons, List.map_nil, List.append_assoc])
  have hI := index_c v xs 0 (Nat.zero_le _) hxl gf caps he O p (fun x hx => (hcl x (by simpa using hx)).front _)
  rw [from_zero, List.drop_zero] at hI
  rcases fidx_cases p xs with ⟨h1, h2⟩ | ⟨k, hk, h1, h2, h3⟩
  · rw [h1] at hI
    ((repeat' (first | (apply WL.opN; exact yF; dsimp only [setD, z0, z1]) | refine WL.nil ?_ | refine WC.seqK fun Kx hK => ?_ | (refine hK _ _ ?_; clear hK) | refine WC.region ?_ |  (refine WL.callC (hp1 := hRow v tI RI xs :: O) (caps := []) hI Try.call70 OpD.f (ArgsD.cons (OpD.t rfl) (ArgsD.cons (OpD.t rfl) ArgsD.nil)) ?_; rintro d' hp2 ⟨rfl, rfl⟩; dsimp only [setD, z0, z1, List.cons_append]) | (apply WL.opN; (focus ((first | ((first | apply SY.move | apply SY.assign | apply SY.lss | apply SY.eql | apply SY.not) <;> (exact oD)) | fail); all_goals infer_instance)); dsimp only [setD, z0, z1]) | (apply WC.condD; (exact oD); all_goals (intro h; try exact xD)) | refine WC.ret ?_ | refine ThenD.r ?_)); all_goals (first | ((repeat clear hK); (repeat clear Kx))))
    all_goals try (exfalso; first | contradiction | omega)
    exact ⟨trivial, _, hRow v tI RI xs :: O, rfl, rfl, v, rfl, by rw [show (xs.filter fun x => !p x) = xs from List.filter_eq_self.2 fun x hx => by simp [h2 x hx]]⟩
  · rw [h1] at hI
    refine WC.openQ (by omega) fun b cap hv hc1 hc2 => ?_
    subst hv
    simp only [maxLen] at hc2
    have hkn : (k : Int) ≠ -1 := by omega
    have hk0 : (xs.take k).filter (fun y => !p y) = xs.take k := take_filter (by omega) fun j hj => by simp [h3 j hj]
    (repeat' (first | (apply WL.opN; exact yF; dsimp only [setD, z0, z1]) | refine WL.nil ?_ | refine WC.seqK fun Kx hK => ?_ | (refine hK _ _ ?_; clear hK) | refine WC.region ?_ |  (refine WL.callC (hp1 := hQ b xs.length cap tI RI xs :: O) (caps := []) hI Try.call70 OpD.f (ArgsD.cons (OpD.t rfl) (ArgsD.cons (OpD.t rfl) ArgsD.nil)) ?_; rintro d' hp2 ⟨rfl, rfl⟩; dsimp only [setD, z0, z1, List.cons_append]) | (apply WL.opN; (focus ((first | ((first | apply SY.move | apply SY.assign | apply SY.lss | apply SY.eql | apply SY.not) <;> (exact oD)) | ((first | apply SY.add) <;> first | exact oD | omega) | fail); all_goals infer_instance)); dsimp only [setD, z0, z1]) | (apply WC.condD; (exact oD); all_goals (intro h; try exact xD)) | refine WC.skip ?_ | refine WC.block ?_))
    all_goals try (exfalso; first | contradiction | omega)
    (refine WC.loopU (X := Nat × Nat × List Int) (fun x => [(6, dI (x.1 : Int)), (5, dI (x.2.1 : Int)), (7, dA), (16, dA), (17, dA), (18, dA), (19, dA), (20, dA), (21, dA), (22, dA), (23, dA), (24, dA), (25, dA), (26, dA), (27, dA), (28, dA), (29, dA), (30, dA), (31, dA), (32, dA), (33, dA), (34, dA), (35, dA)]) (fun x => (hQ b xs.length cap tI RI x.2.2 :: (O ++ hp))) (fun x => xs.length - x.1) (fun x => x.2.1 < x.1 ∧ x.1 ≤ xs.length ∧ x.2.1 = ((xs.take x.1).filter fun y => !p y).length ∧ x.2.2 = ((xs.take x.1).filter fun y => !p y) ++ xs.drop x.2.1) (k + 1, k, xs) ?start ?frame0 ?objs0 ?round)
    case start =>
      have e := del_skip (q := fun y => !p y) hk (by simp [h2])
      refine ⟨Nat.lt_succ_self _, by omega, ?_, ?_⟩
      · rw [e, hk0, List.length_take]; show k = min k xs.length; omega
      · rw [e, hk0, List.take_append_drop]
    case frame0 => ((try dsimp only [upds, z0, z1]); repeat (first | exact LeF.nil | refine LeF.co (k := ?_)))
    case objs0 => rfl
    case round =>
      rintro ⟨j, i, ys⟩ ⟨q1, q2, q3, q4⟩
      simp only at q1 q2 q3 q4
      dsimp only [upds, z0, z1]
      have hyl := del_len q2 q3 q1 q4
      by_cases hj : j < xs.length
      · have hlt : (j : Int) < (xs.length : Int) := by omega
        have hget := del_get hj q3 q1 q4 (by omega)
        have hC := (hcl _ (List.getElem_mem hj)).front (hQ b xs.length cap tI RI ys)
        rw [← hget] at hC
        cases hp : p xs[j] with
        | false =>
          rw [hget, hp, ← hget] at hC
          obtain ⟨e1, e2⟩ := del_keep hj q3 q1 q4 (q := fun y => !p y) (by simp [hp])
          ((repeat' (first | (apply WL.opN; exact yF; dsimp only [setD, z0, z1]) | refine WL.nil ?_ | refine WC.seqK fun Kx hK => ?_ | (refine hK _ _ ?_; clear hK) | refine WC.region ?_ |  (refine WL.callC (hp1 := hQ b xs.length cap tI RI ys :: O) (caps := caps) hC he (OpD.t rfl) (ArgsD.cons (OpD.t rfl) ArgsD.nil) ?_; rintro d' hp2 ⟨rfl, rfl⟩; dsimp only [setD, z0, z1, List.cons_append]) |  (apply WL.storeQ (k := i) tyI; exact OpD.t rfl; exact OpD.t rfl; exact shape_I; omega; omega; dsimp only [setD, z0, z1]) | (apply WL.opN; (focus ((first | (apply SY.ixQ (k := j) elI; exact OpD.t rfl; exact OpD.t rfl; rfl; omega) | (apply SY.ixQ (k := i) elI; exact OpD.t rfl; exact OpD.t rfl; rfl; omega) | (apply SY.loadQ (k := j) tyI; exact OpD.t rfl; exact .head _; omega; omega) | ((first | apply SY.move | apply SY.assign | apply SY.lss | apply SY.eql | apply SY.not) <;> (exact oD)) | ((first | apply SY.add) <;> first | exact oD | omega) | (apply SY.len; (exact oD); (exact nD); (exact uD)) | fail); all_goals infer_instance)); dsimp only [setD, z0, z1]) | (apply WC.condD; (exact oD); all_goals (intro h; try exact xD)) | (apply WC.condNB; (exact oD); all_goals (intro h; try exact xD)) | refine WC.skip ?_ | refine WC.block ?_ | refine ThenD.n ?_)); all_goals (first | ((repeat clear hK); (repeat clear Kx))))
          all_goals try (exfalso; first | contradiction | omega)
          rw [hget, e1]
          (refine ⟨(j + 1, i + 1, (xs.take (j + 1)).filter (fun y => !p y) ++ xs.drop (i + 1)), ?_, by first | omega | (simp only; omega), rfl, ?_⟩; rotate_left; ((try dsimp only [upds, z0, z1]); repeat (first | exact LeF.nil | refine LeF.co (k := ?_))); (try dsimp only))
          exact ⟨by omega, by omega, e2, rfl⟩
        | true =>
          rw [hget, hp, ← hget] at hC
          have e1 := del_skip (q := fun y => !p y) hj (by simp [hp])
          ((repeat' (first | (apply WL.opN; exact yF; dsimp only [setD, z0, z1]) | refine WL.nil ?_ | refine WC.seqK fun Kx hK => ?_ | (refine hK _ _ ?_; clear hK) | refine WC.region ?_ |  (refine WL.callC (hp1 := hQ b xs.length cap tI RI ys :: O) (caps := caps) hC he (OpD.t rfl) (ArgsD.cons (OpD.t rfl) ArgsD.nil) ?_; rintro d' hp2 ⟨rfl, rfl⟩; dsimp only [setD, z0, z1, List.cons_append]) | (apply WL.opN; (focus ((first | (apply SY.ixQ (k := j) elI; exact OpD.t rfl; exact OpD.t rfl; rfl; omega) | (apply SY.loadQ (k := j) tyI; exact OpD.t rfl; exact .head _; omega; omega) | ((first | apply SY.move | apply SY.assign | apply SY.lss | apply SY.eql | apply SY.not) <;> (exact oD)) | ((first | apply SY.add) <;> first | exact oD | omega) | (apply SY.len; (exact oD); (exact nD); (exact uD)) | fail); all_goals infer_instance)); dsimp only [setD, z0, z1]) | (apply WC.condD; (exact oD); all_goals (intro h; try exact xD)) | (apply WC.condNB; (exact oD); all_goals (intro h; try exact xD)) | refine WC.skip ?_ | refine WC.block ?_ | refine ThenD.n ?_)); all_goals (first | ((repeat clear hK); (repeat clear Kx))))
          all_goals try (exfalso; first | contradiction | omega)
          (refine ⟨(j + 1, i, ys), ?_, by first | omega | (simp only; omega), rfl, ?_⟩; rotate_left; ((try dsimp only [upds, z0, z1]); repeat (first | exact LeF.nil | refine LeF.co (k := ?_))); (try dsimp only))
          exact ⟨by omega, by omega, by rw [e1]; exact q3, by rw [e1]; exact q4⟩
      · obtain rfl : j = xs.length := by omega
        rw [List.take_length] at q3 q4
        have e1 : (ys.take i ++ List.replicate (xs.length - i) (0 : Int)).take i = xs.filter fun y => !p y := by
          rw [List.take_left' (by simp; omega), q4, List.take_left' q3.symm]
        ((repeat' (first | (apply WL.opN; exact yF; dsimp only [setD, z0, z1]) | refine WL.nil ?_ | refine WC.seqK fun Kx hK => ?_ | (refine hK _ _ ?_; clear hK) | (refine Kont.skip ?_; clear hK) | refine WC.region ?_ |  (apply WL.clearQ (k := i) (n := xs.length - i) (x0 := (0 : Int)) Try.underlying25 Try.zeroValue3 rfl (fun _ _ => rfl); exact OpD.t rfl; omega; omega; omega; dsimp only [setD, z0, z1]) |  (apply WL.uptoC1 (l := i) elI; exact OpD.t rfl; exact OpD.t rfl; rfl; omega; omega; omega; (simp; omega); dsimp only [setD, z0, z1]) | (apply WL.opN; (focus ((first | (apply SY.fromQ (l := i) elI; exact OpD.t rfl; exact OpD.t rfl; rfl; omega; omega) | ((first | apply SY.move | apply SY.assign | apply SY.lss | apply SY.eql | apply SY.not) <;> (exact oD)) | (apply SY.len; (exact oD); (exact nD); (exact uD)) | fail); all_goals infer_instance)); dsimp only [setD, z0, z1]) | (apply WC.condD; (exact oD); all_goals (intro h; try exact xD)) | refine WC.ret ?_ | refine WC.exit ?_)); all_goals (first | ((repeat clear hK); (repeat clear Kx))))
        all_goals try (exfalso; first | contradiction | omega)
        rw [e1]
        exact ⟨trivial, _, _ :: O, rfl, rfl, _, rfl, rfl⟩
theorem assigned1_c (v3 : Value) (x y : Int) (hx : x.natAbs ≤ 1000000) : CallC Try.prog 97 ([dI y] ++ [v3].map dX) [hKnow v3 (dP 1 false (dI x))] (fun d hp2 => d = dB (decide (y = -x)) ∧ hp2 = [hKnow v3 (dP 1 false (dI x))]) := by
  (refine CallC.intro Try.func97 rfl rfl (fun hp => ?_); simp only [Try.ntmps97, List.length_cons, List.length_nil, List.length_append, List.length_map, Nat.reduceAdd, Nat.reduceSub, List.replicate_succ, List.replicate_zero, List.cons_append, List.nil_append, List.map_cons, List.map_nil, List.append_assoc])
  ((repeat' (first | (apply WL.opN; exact yF; dsimp only [setD, z0, z1]) | refine WL.nil ?_ | refine WC.seqK fun Kx hK => ?_ | (refine hK _ _ ?_; clear hK) | refine WC.region ?_ | (apply WL.opN; (focus ((first | (exact SY.loadKn tyI (OpD.t rfl) (mAt 0 rfl)) | (exact SY.neg (OpD.t rfl) (by omega)) | ((first | apply SY.move | apply SY.assign | apply SY.eql) <;> (exact oD)) | fail); all_goals infer_instance)); dsimp only [setD, z0, z1]) | refine WC.ret ?_)); all_goals (first | ((repeat clear hK); (repeat clear Kx))))
  all_goals exact ⟨trivial, _, [_], rfl, rfl, rfl, rfl⟩
theorem asg_take {l : List (List Int)} {x : Int} {i : Nat} (h : i < l.length) : asgI (l.take (i + 1)) x = asgI (l.take i) x ++ if x ∈ l[i] then [] else [l[i].filter fun y => !decide (y = -x)] := by
  unfold asgI
  rw [List.take_succ_eq_append_getElem h, List.filter_append, List.map_append]
  congr 1
  by_cases e : x ∈ l[i]
  · rw [if_pos e, List.filter_cons, if_neg (by simp [e])]; rfl
  · rw [if_neg e, List.filter_cons, if_pos (by simp [e])]; rfl
theorem asg_len (l : List (List Int)) (x : Int) : (asgI l x).length ≤ l.length := by
  unfold asgI
  rw [List.length_map]
  exact List.length_filter_le _ _
set_option maxHeartbeats 8000000 in
theorem assigned_p (l : List (List Int)) (x : Int) (hl : l.length ≤ 1000000) (hc : ∀ c ∈ l, c.length ≤ 1000000) (hx : x.natAbs ≤ 1000000) : Fn Try.prog 72 [dS Rows l, dI x] (dS Rows (asgI l x)) := by
  (refine Fn.intro1 Try.func72 rfl rfl ?_; simp only [Try.ntmps72, List.length_cons, List.length_nil, Nat.reduceAdd, Nat.reduceSub, List.replicate_succ, List.replicate_zero, List.cons_append, List.nil_append])
  (repeat' (first |  (refine WC.only 1 (Halt.go ?_)) | (apply WL.opN; exact yF; dsimp only [setD, z0, z1]) | refine WL.nil ?_ | refine WC.seqK fun Kx hK => ?_ | (refine hK _ _ ?_; clear hK) | refine WC.region ?_ | (apply WL.opN; (focus ((first | (apply SY.box; (exact oD); (exact hD)) | fail); all_goals infer_instance)); dsimp only [setD, z0, z1])))
  refine ⟨?_⟩
  refine WC.pin 3 rfl fun v3 => ?_
  dsimp only [z0, z1]
  refine WC.nilRow 25 Ints ?_
  (repeat' (first | (apply WL.opN; exact yF; dsimp only [setD, z0, z1]) | refine WL.nil ?_ | refine WC.seqK fun Kx hK => ?_ | (refine hK _ _ ?_; clear hK) | refine WC.region ?_ | (apply WL.opN; (focus ((first | (apply SY.len; (exact oD); (exact nD); (exact uD)) | fail); all_goals infer_instance)); dsimp only [setD, z0, z1]) | refine WC.block ?_))
  (refine WC.loopU (X := Nat × Value) (fun z => [(10, dI (z.1 : Int)), (5, dX z.2), (7, dA), (11, dA), (12, dA), (13, dA), (14, dA), (15, dA), (16, dA), (17, dA), (18, dA), (19, dA), (20, dA), (21, dA), (22, dA), (23, dA), (24, dA), (25, dA)]) (fun z => ([hRow z.2 25 Ints (asgI (l.take z.1) x), hKnow v3 (dP 1 false (dI x))])) (fun z => l.length - z.1) (fun z => z.1 ≤ l.length) (0, nilV) ?start ?frame0 ?objs0 ?round)
  case start => exact Nat.zero_le _
  case frame0 => ((try dsimp only [upds, z0, z1]); repeat (first | exact LeF.nil | refine LeF.co (k := ?_)))
  case objs0 => rfl
  case round =>
    rintro ⟨i, vo⟩ hi
    simp only at hi
    dsimp only [upds, z0, z1]
    by_cases hil : i < l.length
    · have hlt : (i : Int) < (l.length : Int) := by omega
      have hci := hc _ (List.getElem_mem hil)
      have et := asg_take (x := x) hil
      have hal := asg_len (l.take i) x
      rw [List.length_take] at hal
      have h24 : ((asgI (l.take i) x).length + 1) * 24 ≤ 140737488355328 := by omega
      by_cases hm : x ∈ l[i]
      · have hmb : decide (x ∈ l[i]) = true := by simpa using hm
        rw [if_pos hm, List.append_nil] at et
        have hcn := contains43_p l[i] x
        rw [hmb] at hcn
        ((repeat' (first | (apply WL.opN; exact yF; dsimp only [setD, z0, z1]) | refine WL.nil ?_ | refine WC.seqK fun Kx hK => ?_ | (refine hK _ _ ?_; clear hK) | refine WC.region ?_ | (apply WL.opN; (focus ((first | (refine SY.ix (R := Ints) (_gR := inferInstance) (k := i) elSi (OpD.t rfl) (OpD.t rfl) hil) | (exact SY.loadKn tyI (OpD.t rfl) (mAt 1 rfl)) | (apply SY.call (hcn) Try.call95; (exact aD)) | ((first | apply SY.move | apply SY.assign | apply SY.lss | apply SY.not) <;> (exact oD)) | ((first | apply SY.add) <;> first | exact oD | omega) | fail); all_goals infer_instance)); dsimp only [setD, z0, z1]) | (apply WC.condD; (exact oD); all_goals (intro h; try exact xD)) | (apply WC.condNB; (exact oD); all_goals (intro h; try exact xD)) | refine WC.skip ?_ | refine WC.block ?_ | refine ThenD.n ?_)); all_goals (first | ((repeat clear hK); (repeat clear Kx))))
        all_goals try (exfalso; first | contradiction | omega)
        rw [← et]
        (refine ⟨(i + 1, vo), ?_, by first | omega | (simp only; omega), rfl, ?_⟩; rotate_left; ((try dsimp only [upds, z0, z1]); repeat (first | exact LeF.nil | refine LeF.co (k := ?_))); (try dsimp only))
        omega
      · have hmb : decide (x ∈ l[i]) = false := by simpa using hm
        rw [if_neg hm] at et
        have hcn := contains43_p l[i] x
        rw [hmb] at hcn
        have hD := fun v => deleteF_c v l[i] hci 97 [v3] Try.call97 [hKnow v3 (dP 1 false (dI x))] (fun y => decide (y = -x)) (fun y _ => assigned1_c v3 x y hx)
        ((repeat' (first | (apply WL.opN; exact yF; dsimp only [setD, z0, z1]) | refine WL.nil ?_ | refine WC.seqK fun Kx hK => ?_ | (refine hK _ _ ?_; clear hK) | refine WC.region ?_ |  (refine WL.callC (hp1 := []) (caps := []) (clone_c l[i] hci) Try.call52 OpD.f (by (exact aD)) ?_; rintro d' hp2 ⟨vc, rfl, rfl⟩; dsimp only [setD, z0, z1, List.cons_append, List.nil_append]) |  (refine WL.callP (hp1 := [hRow vc tI RI l[i], hKnow v3 (dP 1 false (dI x))]) (caps := []) (hD vc) Try.call96 OpD.f (ArgsD.cons (OpD.t rfl) (ArgsD.cons (OpD.t rfl) ArgsD.nil)) (hq := [hRow vo 25 Ints (asgI (l.take i) x)]) (List.Perm.cons _ (List.Perm.swap _ _ _)) ?_; rintro d' hp2 ⟨vd, rfl, rfl⟩; dsimp only [setD, z0, z1, List.cons_append, List.nil_append]; refine WL.keep1 (s := 22) rfl (WL.perm (List.Perm.swap _ _ _) ?_); dsimp only [z0, z1]) |  (refine WL.ofSW (SW.app1 elSi (R := Ints) (_gR := inferInstance) (OpD.t rfl) (OpD.t rfl) (by decide) h24) fun vo2 => ?_; dsimp only [setD, z0, z1]) | (apply WL.opN; (focus ((first | (refine SY.ix (R := Ints) (_gR := inferInstance) (k := i) elSi (OpD.t rfl) (OpD.t rfl) hil) | (exact SY.loadKn tyI (OpD.t rfl) (mAt 1 rfl)) | (apply SY.call (hcn) Try.call95; (exact aD)) | (exact SY.makeX (vs := [v3]) (ArgsX.one (OpD.t rfl))) | (exact SY.build1' elSi (R := Ints) (_gR := inferInstance) (els := [l[i].filter fun y => !decide (y = -x)]) (ElsD.cn (OpD.t rfl) ElsD.nl) rfl rfl (fun _ => shape_A) (by simp)) | ((first | apply SY.move | apply SY.assign | apply SY.lss | apply SY.not) <;> (exact oD)) | ((first | apply SY.add) <;> first | exact oD | omega) | fail); all_goals infer_instance)); dsimp only [setD, z0, z1]) | (apply WC.condD; (exact oD); all_goals (intro h; try exact xD)) | (apply WC.condNB; (exact oD); all_goals (intro h; try exact xD)) | refine WC.skip ?_ | refine WC.block ?_ | refine ThenD.n ?_)); all_goals (first | ((repeat clear hK); (repeat clear Kx))))
        all_goals try (exfalso; first | contradiction | omega)
        rw [← et]
        (refine ⟨(i + 1, vo2), ?_, by first | omega | (simp only; omega), rfl, ?_⟩; rotate_left; ((try dsimp only [upds, z0, z1]); repeat (first | exact LeF.nil | refine LeF.co (k := ?_))); (try dsimp only))
        omega
    · have hlt : ¬ (i : Int) < (l.length : Int) := by omega
      obtain rfl : i = l.length := by omega
      rw [List.take_length]
      ((repeat' (first | (apply WL.opN; exact yF; dsimp only [setD, z0, z1]) | refine WL.nil ?_ | refine WC.seqK fun Kx hK => ?_ | (refine hK _ _ ?_; clear hK) | (refine Kont.skip ?_; clear hK) | refine WC.region ?_ | (apply WL.opN; (focus ((first | ((first | apply SY.move | apply SY.assign | apply SY.lss | apply SY.not) <;> (exact oD)) | fail); all_goals infer_instance)); dsimp only [setD, z0, z1]) | (apply WC.condD; (exact oD); all_goals (intro h; try exact xD)) | refine WC.ret ?_ | refine WC.exit ?_)); all_goals (first | ((repeat clear hK); (repeat clear Kx))))
      all_goals try (exfalso; first | contradiction | omega)
      (refine ⟨trivial, _, rfl, ?_⟩; exact fD)
theorem asg_sub {l : List (List Int)} {x : Int} {c : List Int} (h : c ∈ asgI l x) : ∃ d ∈ l, c.length ≤ d.length ∧ ∀ y ∈ c, y ∈ d ∧ y ≠ x ∧ y ≠ -x := by
  unfold asgI at h
  obtain ⟨d, hd, rfl⟩ := List.mem_map.1 h
  obtain ⟨h1, h2⟩ := List.mem_filter.1 hd
  refine ⟨d, h1, List.length_filter_le _ _, fun y hy => ?_⟩
  obtain ⟨h3, h4⟩ := List.mem_filter.1 hy
  refine ⟨h3, fun e => ?_, fun e => ?_⟩
  · rw [e] at h3; simp [h3] at h2
  · simp [e] at h4
structure FromV (V v : Nat) (l : List (List Int)) : Prop where
  len : l.length ≤ 1000000
  clen : ∀ c ∈ l, c.length ≤ 1000000
  rng : ∀ c ∈ l, ∀ y ∈ c, v ≤ y.natAbs ∧ y.natAbs ≤ V
theorem FromV.asg {V v : Nat} {l : List (List Int)} (h : FromV V v l) {x : Int} (hx : x = (v : Int) ∨ x = -(v : Int)) : FromV V (v + 1) (asgI l x) := by
  refine ⟨Nat.le_trans (asg_len l x) h.len, fun c hc => ?_, fun c hc y hy => ?_⟩
  · obtain ⟨d, h1, h2, _⟩ := asg_sub hc
    exact Nat.le_trans h2 (h.clen d h1)
  · obtain ⟨d, h1, _, h3⟩ := asg_sub hc
    obtain ⟨q1, q2, q3⟩ := h3 y hy
    have := h.rng d h1 y q1
    omega
theorem SY.shlE {P : Program} {ops : Array Oper} {hp : List HObj} {fr : List Dat} {dst : Option Tmp} {ty : TypeId} {ps : String} {af : Array Edge} {g : Option (Nat × Bool)} {T T2 : TypeId} {x y : Operand} {p q c : Int} (h : ishl p q = c) (h0 : 0 ≤ q) (hx : OpD fr x (dI p)) (hy : OpD fr y (dI q)) : SY P ops hp { dst := dst, op := .binOp .shl T x y T2, type := ty, pos := ps, after := af, guard := g } fr (dI c) := h ▸ SY.shl hx hy h0
theorem shl_one : ∀ n : Nat, n ≤ 20 → ishl 1 (n : Int) = ((2 ^ n : Nat) : Int) := by decide +kernel
theorem cnt_le : ∀ (n : Nat) (v : Int) (l : List (List Int)), cntF n v l ≤ 2 ^ n
  | 0, v, l => by unfold cntF; repeat' split <;> simp
  | n + 1, v, l => by
    unfold cntF
    split
    · exact Nat.zero_le _
    · split
      · exact Nat.le_refl _
      · have h1 := cnt_le n (v + 1) (asgI l v)
        have h2 := cnt_le n (v + 1) (asgI l (-v))
        rw [Nat.pow_succ]; omega
set_option maxHeartbeats 8000000 in
theorem count_p (V : Nat) (hV : V ≤ 20) : ∀ (n v : Nat) (l : List (List Int)), v + n = V + 1 → 1 ≤ v → FromV V v l → Fn Try.prog 46 [dI (V : Int), dI (v : Int), dS Rows l] (dI ((cntF n (v : Int) l : Nat) : Int)) := by
  intro n
  induction n with
  | zero =>
    intro v l hn hv hl
    (refine Fn.intro1 Try.func46 rfl rfl ?_; simp only [Try.ntmps46, List.length_cons, List.length_nil, Nat.reduceAdd, Nat.reduceSub, List.replicate_succ, List.replicate_zero, List.cons_append, List.nil_append])
    have hw := wrong_p l
    cases he : emptyC l with
    | true =>
      rw [he] at hw
      have e : cntF 0 (v : Int) l = 0 := by unfold cntF; rw [if_pos he]
      rw [e]
      ((repeat' (first | (apply WL.opN; exact yF; dsimp only [setD, z0, z1]) | refine WL.nil ?_ | refine WC.seqK fun Kx hK => ?_ | (refine hK _ _ ?_; clear hK) | refine WC.region ?_ | (apply WL.opN; (focus ((first | (apply SY.call (hw) Try.call71; (exact aD)) | fail); all_goals infer_instance)); dsimp only [setD, z0, z1]) | (apply WC.condT; (exact oD); (with_reducible rfl)) | refine WC.ret ?_ | refine WC.block ?_ | refine ThenD.r ?_ | refine InBlockD.r ?_)); all_goals (first | ((repeat clear hK); (repeat clear Kx))))
      all_goals try (exfalso; first | contradiction | omega)
      (refine ⟨trivial, _, rfl, ?_⟩; exact fD)
    | false =>
      rw [he] at hw
      have h0 : l.length = 0 := Classical.byContradiction fun q => by
        have hlt : 0 < l.length := by omega
        have h1 := List.any_eq_false.1 he l[0] (List.getElem_mem hlt)
        have h2 : 0 < (l[0]).length := by simp at h1; exact List.length_pos_iff.2 h1
        have := hl.rng l[0] (List.getElem_mem hlt) (l[0])[0] (List.getElem_mem h2)
        omega
      have e : cntF 0 (v : Int) l = 1 := by unfold cntF; rw [if_neg (by simp [he]), if_pos h0]
      rw [e]
      have hsh := shl_one 0 (by omega)
      have h0i : ((l.length : Nat) : Int) = 0 := by omega
      have hq : (V : Int) - (v : Int) + 1 = ((0 : Nat) : Int) := by omega
      ((repeat' (first | (apply WL.opN; exact yF; dsimp only [setD, z0, z1]) | refine WL.nil ?_ | refine WC.seqK fun Kx hK => ?_ | (refine hK _ _ ?_; clear hK) | refine WC.region ?_ | (apply WL.opN; (focus ((first | (apply SY.call (hw) Try.call71; (exact aD)) | (exact SY.shlE (c := 1) (by rw [hq]; exact hsh) (by omega) OpD.i (OpD.t rfl)) | ((first | apply SY.move | apply SY.assign | apply SY.eql) <;> (exact oD)) | ((first | apply SY.add | apply SY.sub) <;> first | exact oD | omega) | (apply SY.len; (exact oD); (exact nD); (exact uD)) | fail); all_goals infer_instance)); dsimp only [setD, z0, z1]) | (apply WC.condF; (exact oD); (with_reducible rfl)) | (apply WC.condD; (exact oD); all_goals (intro h; try exact xD)) | refine WC.ret ?_ | refine WC.block ?_ | refine ThenD.r ?_ | refine InBlockD.r ?_)); all_goals (first | ((repeat clear hK); (repeat clear Kx))))
      all_goals try (exfalso; first | contradiction | omega)
      (refine ⟨trivial, _, rfl, ?_⟩; exact fD)
  | succ n ih =>
    intro v l hn hv hl
    (refine Fn.intro1 Try.func46 rfl rfl ?_; simp only [Try.ntmps46, List.length_cons, List.length_nil, Nat.reduceAdd, Nat.reduceSub, List.replicate_succ, List.replicate_zero, List.cons_append, List.nil_append])
    have hw := wrong_p l
    cases he : emptyC l with
    | true =>
      rw [he] at hw
      have e : cntF (n + 1) (v : Int) l = 0 := by unfold cntF; rw [if_pos he]
      rw [e]
      ((repeat' (first | (apply WL.opN; exact yF; dsimp only [setD, z0, z1]) | refine WL.nil ?_ | refine WC.seqK fun Kx hK => ?_ | (refine hK _ _ ?_; clear hK) | refine WC.region ?_ | (apply WL.opN; (focus ((first | (apply SY.call (hw) Try.call71; (exact aD)) | fail); all_goals infer_instance)); dsimp only [setD, z0, z1]) | (apply WC.condT; (exact oD); (with_reducible rfl)) | refine WC.ret ?_ | refine WC.block ?_ | refine ThenD.r ?_ | refine InBlockD.r ?_)); all_goals (first | ((repeat clear hK); (repeat clear Kx))))
      all_goals try (exfalso; first | contradiction | omega)
      (refine ⟨trivial, _, rfl, ?_⟩; exact fD)
    | false =>
      rw [he] at hw
      by_cases h0 : l.length = 0
      · have e : cntF (n + 1) (v : Int) l = 2 ^ (n + 1) := by unfold cntF; rw [if_neg (by simp [he]), if_pos h0]
        rw [e]
        have hsh := shl_one (n + 1) (by omega)
        have h0i : ((l.length : Nat) : Int) = 0 := by omega
        have hq : (V : Int) - (v : Int) + 1 = ((n + 1 : Nat) : Int) := by omega
        generalize hN : ((2 ^ (n + 1) : Nat) : Int) = N at hsh ⊢
        ((repeat' (first | (apply WL.opN; exact yF; dsimp only [setD, z0, z1]) | refine WL.nil ?_ | refine WC.seqK fun Kx hK => ?_ | (refine hK _ _ ?_; clear hK) | refine WC.region ?_ | (apply WL.opN; (focus ((first | (apply SY.call (hw) Try.call71; (exact aD)) | (exact SY.shlE (c := N) (by rw [hq]; exact hsh) (by omega) OpD.i (OpD.t rfl)) | ((first | apply SY.move | apply SY.assign | apply SY.eql) <;> (exact oD)) | ((first | apply SY.add | apply SY.sub) <;> first | exact oD | omega) | (apply SY.len; (exact oD); (exact nD); (exact uD)) | fail); all_goals infer_instance)); dsimp only [setD, z0, z1]) | (apply WC.condF; (exact oD); (with_reducible rfl)) | (apply WC.condD; (exact oD); all_goals (intro h; try exact xD)) | refine WC.ret ?_ | refine WC.block ?_ | refine ThenD.r ?_ | refine InBlockD.r ?_)); all_goals (first | ((repeat clear hK); (repeat clear Kx))))
        all_goals try (exfalso; first | contradiction | omega)
        (refine ⟨trivial, _, rfl, ?_⟩; exact fD)
      · have e : cntF (n + 1) (v : Int) l = cntF n ((v : Int) + 1) (asgI l (v : Int)) + cntF n ((v : Int) + 1) (asgI l (-(v : Int))) := by
          conv => lhs; unfold cntF
          rw [if_neg (by simp [he]), if_neg h0]
        rw [e]
        have hc1 := cnt_le n ((v : Int) + 1) (asgI l (v : Int))
        have hc2 := cnt_le n ((v : Int) + 1) (asgI l (-(v : Int)))
        have hp : 2 ^ n ≤ 2 ^ 20 := Nat.pow_le_pow_right (by decide) (by omega)
        have hp2 : (2 : Nat) ^ 20 = 1048576 := by decide
        have h1 := ih (v + 1) (asgI l (v : Int)) (by omega) (by omega) (hl.asg (.inl rfl))
        have h2 := ih (v + 1) (asgI l (-(v : Int))) (by omega) (by omega) (hl.asg (.inr rfl))
        rw [Int.natCast_add] at h1 h2
        have ha1 := assigned_p l (v : Int) hl.len hl.clen (by omega)
        have ha2 := assigned_p l (-(v : Int)) hl.len hl.clen (by omega)
        generalize cntF n ((v : Int) + 1) (asgI l (v : Int)) = k1 at *
        generalize cntF n ((v : Int) + 1) (asgI l (-(v : Int))) = k2 at *
        have h0i : ¬ ((l.length : Nat) : Int) = 0 := by omega
        ((repeat' (first | (apply WL.opN; exact yF; dsimp only [setD, z0, z1]) | refine WL.nil ?_ | refine WC.seqK fun Kx hK => ?_ | (refine hK _ _ ?_; clear hK) | refine WC.region ?_ | (apply WL.opN; (focus ((first | (apply SY.call (hw) Try.call71; (exact aD)) | (exact SY.neg (OpD.t rfl) (by omega)) | (apply SY.call (ha1) Try.call72; exact ArgsD.cons (OpD.t rfl) (ArgsD.cons (OpD.t rfl) (ArgsD.nil))) | (apply SY.call (ha2) Try.call72; exact ArgsD.cons (OpD.t rfl) (ArgsD.cons (OpD.t rfl) (ArgsD.nil))) | (apply SY.call (h1) Try.call46; exact ArgsD.cons (OpD.t rfl) (ArgsD.cons (OpD.t rfl) (ArgsD.cons (OpD.t rfl) (ArgsD.nil)))) | (apply SY.call (h2) Try.call46; exact ArgsD.cons (OpD.t rfl) (ArgsD.cons (OpD.t rfl) (ArgsD.cons (OpD.t rfl) (ArgsD.nil)))) | ((first | apply SY.move | apply SY.assign | apply SY.eql) <;> (exact oD)) | ((first | apply SY.add | apply SY.sub) <;> first | exact oD | omega) | (apply SY.len; (exact oD); (exact nD); (exact uD)) | fail); all_goals infer_instance)); dsimp only [setD, z0, z1]) | (apply WC.condF; (exact oD); (with_reducible rfl)) | (apply WC.condD; (exact oD); all_goals (intro h; try exact xD)) | refine WC.skip ?_ | refine WC.ret ?_ | refine WC.block ?_)); all_goals (first | ((repeat clear hK); (repeat clear Kx))))
        all_goals try (exfalso; first | contradiction | omega)
        (refine ⟨trivial, _, rfl, ?_⟩; exact fD)
theorem fromV_wf {V : Nat} (hV : V ≤ 4096) {l : List (List Int)} (hl : WfL V l) (hll : l.length ≤ 1000000) : FromV V 1 l := by
  refine ⟨hll, fun c hc => ?_, fun c hc y hy => ?_⟩
  · have := S43.trail_len (V := V) (hl c hc).rng ((hl c hc).inc.imp fun h => by omega)
    omega
  · have := (hl c hc).rng y hy
    omega
theorem irr_wf {V : Nat} (hV : V ≤ 4096) {l : List (List Int)} (hl : WfL V l) : IRR l := fun c hc x hx => by
  have := ((hl c hc).rng x hx).2
  unfold IR; omega
theorem count43_p (V : Nat) (l : List (List Int)) (hV : V ≤ 10) (hck : checkI (V : Int) l = 0) : Fn Try.prog 15 [dS Cls ((V : Int), l)] (dT [dI (((allF V l []).length : Nat) : Int), dI 0]) := by
  obtain ⟨_, _, hll, hcl⟩ := checkI_zero hck
  have hl : WfL V l := (clausesI_iff (by omega)).1 hcl
  have h1 := check43_p (V : Int) l (irr_wf (by omega) hl)
  rw [hck] at h1
  have h2 := count_p V (by omega) V 1 l (by omega) (by omega) (fromV_wf (by omega) hl (by omega))
  rw [show cntF V ((1 : Nat) : Int) l = (allF V l []).length from count_same fun c hc x hx => (hl c hc).rng x hx] at h2
  (refine Fn.intro2 Try.func15 rfl rfl ?_; simp only [Try.ntmps15, List.length_cons, List.length_nil, Nat.reduceAdd, Nat.reduceSub, List.replicate_succ, List.replicate_zero, List.cons_append, List.nil_append])
  ((repeat' (first | (apply WL.opN; exact yF; dsimp only [setD, z0, z1]) | refine WL.nil ?_ | refine WC.seqK fun Kx hK => ?_ | (refine hK _ _ ?_; clear hK) | refine WC.region ?_ | (apply WL.opN; (focus ((first | (apply SY.call (h1) Try.call38; (exact aD)) | (apply SY.call h2 Try.call46; exact ArgsD.cons (OpD.t rfl) (ArgsD.cons OpD.i (ArgsD.cons (OpD.t rfl) ArgsD.nil))) | ((first | apply SY.move | apply SY.assign | apply SY.gtr | apply SY.neq) <;> (exact oD)) | (apply SY.fldP0 clT; exact OpD.t rfl) | (apply SY.fldP1 clT; exact OpD.t rfl) | (apply SY.box; (exact oD); (exact hD)) | fail); all_goals infer_instance)); dsimp only [setD, z0, z1]) | (apply WC.condD; (exact oD); all_goals (intro h; try exact xD)) | (apply WC.condN; (exact oD); all_goals (intro h; try exact xD)) | refine WC.skip ?_ | refine WC.ret ?_)); all_goals (first | ((repeat clear hK); (repeat clear Kx))))
  all_goals try (exfalso; first | contradiction | omega)
  (refine ⟨trivial, ⟨_, rfl, ?_⟩, _, rfl, ?_⟩ <;> exact fD)
end Go.Proofs.Ytpiidgcljlalmaa
