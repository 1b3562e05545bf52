/- Part 5: walks by contracts, and plain laws. -/
import Derived.Test.YtpiidgcljlalmaaVd4
set_option linter.unusedVariables false
set_option linter.unusedSimpArgs false
set_option linter.unusedSectionVars false
namespace Go.Proofs.Ytpiidgcljlalmaa
open Go.RowKit
open S43 (beginS)
theorem unsB_iff {V : Nat} {l : List (List Int)} : unsB V l = true ↔ allF V l [] = [] := by unfold unsB; exact List.isEmpty_iff
theorem RunR.verdict {V : Nat} {cls lr : List S43.Cl} {k : Int} {res : List Int} (h : RunR V [] cls k res lr) : k = if unsB V cls = true then 2 else 1 := by
  rcases h.is with rfl | rfl
  · rw [if_neg]
    intro q
    have := (h.yes rfl).1
    rw [unsB_iff.1 q] at this
    cases this
  · rw [if_pos]
    obtain ⟨h1, h2⟩ := h.no rfl
    rw [unsB_iff]
    cases hm : allF V cls [] with
    | nil => rfl
    | cons m t => exact absurd (fun x hx => by rw [List.sublist_nil.1 h1] at hx; cases hx) (h2 m (by rw [hm]; simp))
theorem del43_c (v : Value) (xs : List Int) (i : Nat) (hi : i < xs.length) : CallC Try.prog 64 ([dX v, dI (i : Int), dI ((i : Int) + 1)] ++ ([] : List Value).map dX) [hRow v tI RI xs] (fun d hp2 => ∃ v', d = dX v' ∧ hp2 = [hRow v' tI RI (remI xs i)]) := ⟨fun P0 B w0 hp vs W hh hl hv => by
  match vs, hl with
  | [u0, u1, u2], _ =>
    have e0 : u0 = v := hv 0 _ rfl
    have e1 : u1 = .int .i64 (i : Int) := hv 1 _ rfl
    have e2 : u2 = .int .i64 ((i : Int) + 1) := hv 2 _ rfl
    subst e0 e1 e2
    have hok := (hRow u0 tI RI xs).bound (hh.ok (hRow u0 tI RI xs) (by simp))
    refine (idel_c W hok hi).mono ?_
    rintro e' W' ⟨v', rfl, hO, hg, hb⟩
    exact ⟨v', dX v', [hRow v' tI RI (remI xs i)], rfl, ⟨v', rfl, rfl⟩, hh.write (o' := hRow v' tI RI (remI xs i)) hg (.inl hb) hO, rfl⟩⟩
def fillU (n i : Nat) : List Int := upI i ++ List.replicate (n - i) 0
theorem fillU_zero (n : Nat) : fillU n 0 = List.replicate n 0 := by simp [fillU, upI]
theorem fillU_len {n i : Nat} (h : i ≤ n) : (fillU n i).length = n := by simp [fillU, upI]; omega
theorem fillU_all (n : Nat) : fillU n n = upI n := by simp [fillU]
theorem fillU_set {n i : Nat} (h : i < n) : (fillU n i).set i (i : Int) = fillU n (i + 1) := by
  unfold fillU
  have e1 : (upI i).length = i := by simp [upI]
  rw [List.set_append_right _ _ (by omega), e1, Nat.sub_self, show n - i = (n - (i + 1)) + 1 by omega, List.replicate_succ, List.set_cons_zero]
  have e2 : upI (i + 1) = upI i ++ [(i : Int)] := by simp [upI, List.range_succ]
  rw [e2, List.append_assoc]
  rfl
theorem chosen_take' {l : List (List Int)} {ks : List Int} {i : Nat} (h : i < ks.length) : chosenI l (ks.take (i + 1)) = chosenI l (ks.take i) ++ [l.getD (ks[i]).toNat []] := by
  unfold chosenI
  rw [List.take_succ_eq_append_getElem h, List.map_append]; rfl
abbrev KsOf (l : List (List Int)) := {ks : List Int // (∀ k ∈ ks, 0 ≤ k ∧ k < l.length) ∧ ks.length ≤ 32768}
set_option linter.unusedSimpArgs false
set_option linter.unusedVariables false
set_option maxHeartbeats 2000000
set_option maxRecDepth 100000
set_option maxHeartbeats 8000000 in
theorem verdict_p (V : Nat) (l : List (List Int)) (hV : V ≤ 10) (hw : WfL V l) (ks : KsOf l) : Fn Try.prog 63 ([dS Ints ks.1] ++ [dP 2 true (dS Cls ((V : Int), l))]) (dI (if unsB V (chosenI l ks.1) = true then 2 else 1)) := by
  obtain ⟨ks, hkr, hkl⟩ := ks
  show Fn Try.prog 63 [dS Ints ks, dP 2 true (dS Cls ((V : Int), l))] (dI (if unsB V (chosenI l ks) = true then 2 else 1))
  have hwp : WfL V (chosenI l ks) := fun d hd => hw d (chosenI_mem hkr d hd)
  have hcl : (chosenI l ks).length ≤ 1000000 := by rw [chosenI_length]; omega
  have hb := begin_z V (chosenI l ks) (by omega) hwp hcl
  have hr := fun (X : Lay) (hX : X.cf = 0) => run_z X V [] (chosenI l ks) hV (by simp) (fun x hx => by cases hx) hcl hwp hX
  (refine Fn.intro1 Try.func63 rfl rfl ?_; simp only [Try.ntmps63, List.length_cons, List.length_nil, Nat.reduceAdd, Nat.reduceSub, List.replicate_succ, List.replicate_zero, List.cons_append, List.nil_append])
  refine WC.nilRow 25 Ints ?_
  (repeat' (first | (apply WL.opN; exact yF; dsimp only [setD, z0, z1]) | refine WL.nil ?_ | refine WC.seqK fun Kx hK => ?_ | (refine hK _ _ ?_; clear hK) | refine WC.region ?_ | (apply WL.opN; (focus ((first | (apply SY.len; (exact oD); (exact nD); (exact uD)) | fail); all_goals infer_instance)); dsimp only [setD, z0, z1]) | refine WC.block ?_))
  (refine WC.loopU (X := Nat × Value) (fun x => [(11, dI (x.1 : Int)), (4, dX x.2), (6, dA), (12, dA), (13, dA), (14, dA), (15, dA), (16, dA), (17, dA), (18, dA), (19, dA), (20, dA), (21, dA), (22, dA), (23, dA)]) (fun x => ([hRow x.2 25 Ints (chosenI l (ks.take x.1))])) (fun x => ks.length - x.1) (fun x => x.1 ≤ ks.length) (0, nilV) ?start ?frame0 ?objs0 ?round)
  case start => exact Nat.zero_le _
  case frame0 => ((try dsimp only [upds, z0, z1]); repeat (first | exact LeF.nil | refine LeF.co (k := ?_)))
  case objs0 => rfl
  case round =>
    rintro ⟨i, vo⟩ hi
    simp only at hi
    dsimp only [upds, z0, z1]
    by_cases hil : i < ks.length
    · have hlti : (i : Int) < (ks.length : Int) := by omega
      obtain ⟨k, hk⟩ : ∃ k, ks[i] = k := ⟨_, rfl⟩
      obtain ⟨q1, q2⟩ := hkr k (by rw [← hk]; exact List.getElem_mem hil)
      have hkn : k.toNat < l.length := by omega
      have hkc : (k.toNat : Int) = k := by omega
      have et := chosen_take' (l := l) hil
      rw [hk] at et
      have hgd : l.getD k.toNat [] = l[k.toNat] := by rw [List.getD_eq_getElem?_getD, List.getElem?_eq_getElem hkn]; rfl
      rw [hgd] at et
      have hcln : (chosenI l (ks.take i)).length = i := by rw [chosenI_length, List.length_take]; omega
      have h24 : ((chosenI l (ks.take i)).length + 1) * 24 ≤ 140737488355328 := by omega
      ((repeat' (first | (apply WL.opN; exact yF; dsimp only [setD, z0, z1]) | refine WL.nil ?_ | refine WC.seqK fun Kx hK => ?_ | (refine hK _ _ ?_; clear hK) | refine WC.region ?_ | ((first | apply WL.pushK | apply WL.push1); (exact eD); exact OpD.t rfl; (exact oD); (intro _; exact hD); (exact (by simp)); (exact (by simp)); (first | exact ⟨by decide, by decide⟩ | skip); decide; (exact lD); (intro _; dsimp only [setD, z0, z1]); all_goals (try infer_instance)) | (apply WL.opN; (focus ((first | (refine SY.ixE1 (R := RI) (_gR := inferInstance) elI hil hk (OpD.t rfl) (OpD.t rfl)) | (refine SY.ixJ (R := Ints) (_gR := inferInstance) elSi (OpD.t rfl) (OpD.t rfl) k.toNat hkc.symm hkn) | ((first | apply SY.move | apply SY.assign | apply SY.lss) <;> (exact oD)) | ((first | apply SY.add) <;> first | exact oD | omega) | (apply SY.fldP0 clT; exact OpD.t rfl) | (apply SY.fldP1 clT; exact OpD.t rfl) | fail); all_goals infer_instance)); dsimp only [setD, z0, z1]) | (apply WC.condD; (exact oD); all_goals (intro h; try exact xD)) | refine WC.skip ?_ | refine WC.block ?_ | refine ThenD.n ?_)); all_goals (first | ((repeat clear hK); (repeat clear Kx))))
      all_goals try (exfalso; first | contradiction | omega)
      rw [← et]
      (refine ⟨(i + 1, _), ?_, by first | omega | (simp only; omega), rfl, ?_⟩; rotate_left; ((try dsimp only [upds, z0, z1]); repeat (first | exact LeF.nil | refine LeF.co (k := ?_))); (try dsimp only))
      omega
    · have hlti : ¬ (i : Int) < (ks.length : Int) := by omega
      obtain rfl : i = ks.length := by omega
      rw [List.take_length]
      (repeat' (first |  (refine WC.only 7 (Halt.go ?_)) | refine WL.nil ?_ | refine WC.seqK fun Kx hK => ?_ | (refine hK _ _ ?_; clear hK) | (refine Kont.skip ?_; clear hK) | refine WC.region ?_ | (apply WL.opN; (focus ((first | ((first | apply SY.move | apply SY.assign | apply SY.lss) <;> (exact oD)) | fail); all_goals infer_instance)); dsimp only [setD, z0, z1]) | (apply WC.condD; (exact oD); all_goals (intro h; try exact xD)) | refine WC.exit ?_))
      all_goals try (exfalso; first | contradiction | omega)
      refine ⟨WC.keep1 (s := 4) rfl ?_⟩
      dsimp only [z0, z1]
      (repeat' (first |  (refine WC.only 8 (Halt.go ?_)) | (apply WL.opN; exact yF; dsimp only [setD, z0, z1]) | refine WL.nil ?_ | refine WC.seqK fun Kx hK => ?_ | (refine hK _ _ ?_; clear hK) | refine WC.region ?_ |  (refine WL.callC (hp1 := []) (caps := []) hb Try.call47 OpD.f (ArgsD.cons (OpD.t rfl) (ArgsD.cons (OpD.t rfl) ArgsD.nil)) ?_; rintro d' hp2 ⟨X, hX, rfl, rfl⟩; dsimp only [setD, z0, z1]) |  (refine WL.callC (hp := []) (hp1 := runO X V (beginS (chosenI l ks)) [] []) (caps := []) (hr X hX) Try.call48 OpD.f (ArgsD.cons (OpD.t rfl) (ArgsD.cons ⟨Dat.le_nil⟩ ArgsD.nil)) ?_; rintro d' hp2 ⟨k, res, lr, Y, s, rfl, rfl, hYb, hRR, hSS⟩; dsimp only [setD, z0, z1, List.cons_append, List.nil_append]) | (apply WL.opN; (focus ((first | (apply SY.fldP0 clT; exact OpD.t rfl) | (apply SY.fldP1 clT; exact OpD.t rfl) | (apply SY.extract; (exact oD); rfl) | fail); all_goals infer_instance)); dsimp only [setD, z0, z1])))
      all_goals try (exfalso; first | contradiction | omega)
      refine ⟨?_⟩
      ((repeat' (first | (apply WL.opN; exact yF; dsimp only [setD, z0, z1]) | refine WL.nil ?_ | (refine hK _ _ ?_; clear hK) | refine WC.region ?_ | refine WC.ret ?_)); all_goals (first | ((repeat clear hK); (repeat clear Kx))))
      (refine ⟨trivial, _, rfl, ?_⟩; refine FinD.i ?_)
      exact hRR.verdict
theorem core_step {V : Nat} {l : List (List Int)} {q : Nat} {ks : List Int} : prune (fun ks => unsB V (chosenI l ks)) (q + 1) ks = prune (fun ks => unsB V (chosenI l ks)) q (if unsB V (chosenI l (remI ks q)) = true then remI ks q else ks) := rfl
theorem remI_sub {ks : List Int} {q : Nat} {x : Int} (h : x ∈ remI ks q) : x ∈ ks := by
  unfold remI at h
  rcases List.mem_append.1 h with h | h
  · exact List.mem_of_mem_take h
  · exact List.mem_of_mem_drop h
set_option maxHeartbeats 16000000 in
theorem coreS_p (V : Nat) (l : List (List Int)) (hV : V ≤ 10) (hck : checkI (V : Int) l = 0) : Fn Try.prog 32 [dS Cls ((V : Int), l)] (dT [dS Ints (if unsB V l = true then core43 V l else []), dI (if unsB V l = true then 0 else 6)]) := by
  obtain ⟨_, _, hll, hcl⟩ := checkI_zero hck
  have hw : WfL V l := (clausesI_iff (by omega)).1 hcl
  have h1 := check43_p (V : Int) l (irr_wf (by omega) hw)
  rw [hck] at h1
  have hMk := fun (c : KsOf l) => verdict_p V l hV hw c
  have hup : ∀ k ∈ upI l.length, 0 ≤ k ∧ k < (l.length : Int) := fun k hk => upI_mem hk
  have hul : (upI l.length).length ≤ 32768 := by rw [upI_length]; exact hll
  have h8 : 8 * l.length ≤ 281474976710656 := by omega
  (refine Fn.intro2 Try.func32 rfl rfl ?_; simp only [Try.ntmps32, List.length_cons, List.length_nil, Nat.reduceAdd, Nat.reduceSub, List.replicate_succ, List.replicate_zero, List.cons_append, List.nil_append])
  (repeat' (first | (apply WL.opN; exact yF; dsimp only [setD, z0, z1]) | refine WL.nil ?_ | refine WC.seqK fun Kx hK => ?_ | (refine hK _ _ ?_; clear hK) | refine WC.region ?_ |  (refine WL.makeI elI (OpD.t rfl) (OpD.t rfl) rfl h8 (by omega) fun v => ?_; dsimp only [setD, z0, z1]) | (apply WL.opN; (focus ((first | (apply SY.call (h1) Try.call38; (exact aD)) | (exact SY.lenRE (by simp : (List.replicate l.length (0 : Int)).length = l.length) (OpD.t rfl) (mAt 0 rfl) elI.unt) | ((first | apply SY.move | apply SY.assign | apply SY.lss | apply SY.geq | apply SY.eql | apply SY.neq) <;> (exact oD)) | (apply SY.len; (exact oD); (exact nD); (exact uD)) | (apply SY.fldP0 clT; exact OpD.t rfl) | (apply SY.fldP1 clT; exact OpD.t rfl) | (apply SY.box; (exact oD); (exact hD)) | fail); all_goals infer_instance)); dsimp only [setD, z0, z1]) | (apply WC.condN; (exact oD); all_goals (intro h; try exact xD)) | refine WC.skip ?_ | refine WC.block ?_))
  all_goals try (exfalso; first | contradiction | omega)
  (refine WC.loopU (X := Nat) (fun i => [(21, dI (i : Int)), (6, dA), (22, dA), (23, dA), (24, dA), (25, dA), (26, dA), (27, dA), (28, dA)]) (fun i => ([hRow v tI RI (fillU l.length i)])) (fun i => l.length - i) (fun i => i ≤ l.length) 0 ?start ?frame0 ?objs0 ?round)
  case start => exact Nat.zero_le _
  case frame0 => ((try dsimp only [upds, z0, z1]); repeat (first | exact LeF.nil | refine LeF.co (k := ?_)))
  case objs0 => rw [fillU_zero]
  case round =>
    rintro i hi
    dsimp only [upds, z0, z1]
    by_cases hil : i < l.length
    · have hlti : (i : Int) < (l.length : Int) := by omega
      have hfl : i < (fillU l.length i).length := by rw [fillU_len hi]; exact hil
      have et := fillU_set hil
      ((repeat' (first | (apply WL.opN; exact yF; dsimp only [setD, z0, z1]) | refine WL.nil ?_ | refine WC.seqK fun Kx hK => ?_ | (refine hK _ _ ?_; clear hK) | refine WC.region ?_ |  (refine WL.ofSW (SW.storeR tyI (OpD.t rfl) (OpD.t rfl) shape_I hfl) fun _ => ?_; dsimp only [setD, z0, z1]) | (apply WL.opN; (focus ((first | (exact SY.ixR elI (OpD.t rfl) (mAt 0 rfl) (OpD.t rfl) rfl hfl) | ((first | apply SY.move | apply SY.assign | apply SY.lss | apply SY.geq | apply SY.eql | apply SY.neq) <;> (exact oD)) | ((first | apply SY.add | apply SY.sub) <;> first | exact oD | omega) | fail); all_goals infer_instance)); dsimp only [setD, z0, z1]) | (apply WC.condD; (exact oD); all_goals (intro h; try exact xD)) | refine WC.skip ?_ | refine WC.block ?_ | refine ThenD.n ?_)); all_goals (first | ((repeat clear hK); (repeat clear Kx))))
      all_goals try (exfalso; first | contradiction | omega)
      rw [et]
      (refine ⟨i + 1, ?_, by first | omega | (simp only; omega), rfl, ?_⟩; rotate_left; ((try dsimp only [upds, z0, z1]); repeat (first | exact LeF.nil | refine LeF.co (k := ?_))); (try dsimp only))
      omega
    · have hlti : ¬ (i : Int) < (l.length : Int) := by omega
      obtain rfl : i = l.length := by omega
      rw [fillU_all]
      (repeat' (first |  (refine WC.only 10 (Halt.go ?_)) | refine WL.nil ?_ | refine WC.seqK fun Kx hK => ?_ | (refine hK _ _ ?_; clear hK) | (refine Kont.skip ?_; clear hK) | refine WC.region ?_ | (apply WL.opN; (focus ((first | ((first | apply SY.move | apply SY.assign | apply SY.lss | apply SY.geq | apply SY.eql | apply SY.neq) <;> (exact oD)) | fail); all_goals infer_instance)); dsimp only [setD, z0, z1]) | (apply WC.condD; (exact oD); all_goals (intro h; try exact xD)) | refine WC.exit ?_))
      all_goals try (exfalso; first | contradiction | omega)
      refine ⟨WC.keep1 (s := 5) rfl ?_⟩
      dsimp only [z0, z1]
      have hun : unsB V (chosenI l (upI l.length)) = unsB V l := by rw [cho_up]
      cases hu : unsB V l with
      | false =>
        rw [hu] at hun
        have hk : (if unsB V (chosenI l (upI l.length)) = true then (2 : Int) else 1) = 1 := by rw [hun]; rfl
        ((repeat' (first | (apply WL.opN; exact yF; dsimp only [setD, z0, z1]) | refine WL.nil ?_ | refine WC.seqK fun Kx hK => ?_ | (refine hK _ _ ?_; clear hK) | refine WC.region ?_ | (apply WL.opN; (focus ((first | (apply SY.makeFun (A := fun ks : KsOf l => [dS Ints ks.1]) (r := fun ks => dI (if unsB V (chosenI l ks.1) = true then 2 else 1)) Try.call63 (hMk) (fun _ => bare_I); (exact aD)) | (refine SY.mono (d' := dI 1) (SY.dynF (x := (⟨upI l.length, hup, hul⟩ : KsOf l)) (OpD.t rfl) (ArgsD.cons (OpD.t rfl) ArgsD.nil)) (le_ii hk)) | ((first | apply SY.move | apply SY.assign | apply SY.lss | apply SY.geq | apply SY.eql | apply SY.neq) <;> (exact oD)) | fail); all_goals infer_instance)); dsimp only [setD, z0, z1]) | (apply WC.condD; (exact oD); all_goals (intro h; try exact xD)) | refine WC.ret ?_ | refine WC.block ?_ | refine ThenD.r ?_ | refine InBlockD.r ?_)); all_goals (first | ((repeat clear hK); (repeat clear Kx))))
        all_goals try (exfalso; first | contradiction | omega)
        (refine ⟨trivial, ⟨_, rfl, ?_⟩, _, rfl, ?_⟩ <;> (first | refine FinD.i ?_ | refine FinD.nilE ?_)) <;> (rw [hu]; rfl)
      | true =>
        rw [hu] at hun
        have hul2 := upI_length l.length
        have hk : (if unsB V (chosenI l (upI l.length)) = true then (2 : Int) else 1) = 2 := by rw [hun]; rfl
        (repeat' (first | (apply WL.opN; exact yF; dsimp only [setD, z0, z1]) | refine WL.nil ?_ | refine WC.seqK fun Kx hK => ?_ | (refine hK _ _ ?_; clear hK) | refine WC.region ?_ | (apply WL.opN; (focus ((first | (apply SY.makeFun (A := fun ks : KsOf l => [dS Ints ks.1]) (r := fun ks => dI (if unsB V (chosenI l ks.1) = true then 2 else 1)) Try.call63 (hMk) (fun _ => bare_I); (exact aD)) | (refine SY.mono (d' := dI 2) (SY.dynF (x := (⟨upI l.length, hup, hul⟩ : KsOf l)) (OpD.t rfl) (ArgsD.cons (OpD.t rfl) ArgsD.nil)) (le_ii hk)) | ((first | apply SY.move | apply SY.assign | apply SY.lss | apply SY.geq | apply SY.eql | apply SY.neq) <;> (exact oD)) | ((first | apply SY.add | apply SY.sub) <;> first | exact oD | omega) | (apply SY.len; (exact oD); (exact nD); (exact uD)) | fail); all_goals infer_instance)); dsimp only [setD, z0, z1]) | (apply WC.condD; (exact oD); all_goals (intro h; try exact xD)) | refine WC.skip ?_ | refine WC.block ?_))
        all_goals try (exfalso; first | contradiction | omega)
        (refine WC.loopU (X := Nat × List Int) (fun x => [(8, dI ((x.1 : Int) - 1)), (5, dS Ints x.2), (2, dA), (3, dA), (9, dA), (40, dA), (41, dA), (42, dA), (43, dA), (44, dA), (45, dA), (46, dA), (47, dA), (48, dA), (49, dA), (50, dA), (51, dA), (52, dA), (53, dA), (54, dA), (55, dA), (56, dA), (57, dA)]) (fun x => ([])) (fun x => x.1) (fun x => x.1 ≤ x.2.length ∧ x.2.length ≤ 32768 ∧ (∀ k ∈ x.2, 0 ≤ k ∧ k < (l.length : Int)) ∧ prune (fun ks => unsB V (chosenI l ks)) x.1 x.2 = core43 V l) (l.length, upI l.length) ?start ?frame0 ?objs0 ?round)
        case start => exact ⟨by rw [upI_length]; exact Nat.le_refl _, hul, hup, rfl⟩
        case frame0 => ((try dsimp only [upds, z0, z1]); repeat (first | exact LeF.nil | refine LeF.co (k := ?_)))
        case objs0 => rfl
        case round =>
          rintro ⟨p, ks⟩ ⟨q1, q2, q3, q4⟩
          simp only at q1 q2 q3 q4
          dsimp only [upds, z0, z1]
          rcases Nat.eq_zero_or_pos p with rfl | hp0
          · have hge : ¬ ((0 : Nat) : Int) - 1 ≥ 0 := by omega
            have q5 : ks = core43 V l := q4
            subst q5
            ((repeat' (first | (apply WL.opN; exact yF; dsimp only [setD, z0, z1]) | refine WL.nil ?_ | refine WC.seqK fun Kx hK => ?_ | (refine hK _ _ ?_; clear hK) | (refine Kont.skip ?_; clear hK) | refine WC.region ?_ | (apply WL.opN; (focus ((first | ((first | apply SY.move | apply SY.assign | apply SY.lss | apply SY.geq | apply SY.eql | apply SY.neq) <;> (exact oD)) | fail); all_goals infer_instance)); dsimp only [setD, z0, z1]) | (apply WC.condD; (exact oD); all_goals (intro h; try exact xD)) | refine WC.ret ?_ | refine WC.exit ?_)); all_goals (first | ((repeat clear hK); (repeat clear Kx))))
            all_goals try (exfalso; first | contradiction | omega)
            (refine ⟨trivial, ⟨_, rfl, ?_⟩, _, rfl, ?_⟩ <;> (first | refine FinD.i ?_ | refine FinD.s ?_)) <;> (rw [hu]; rfl)
          · obtain ⟨q, rfl⟩ : ∃ q, p = q + 1 := ⟨p - 1, by omega⟩
            have hge : ((q + 1 : Nat) : Int) - 1 ≥ 0 := by omega
            have hqi : ((q + 1 : Nat) : Int) - 1 = (q : Int) := by omega
            have hql : q < ks.length := by omega
            have hrl : (remI ks q).length = ks.length - 1 := remI_length hql
            have hrr : ∀ k ∈ remI ks q, 0 ≤ k ∧ k < (l.length : Int) := fun k hk => q3 k (remI_sub hk)
            have hrk : (remI ks q).length ≤ 32768 := by omega
            have hD := fun v => del43_c v ks q hql
            rw [core_step] at q4
            cases hq : unsB V (chosenI l (remI ks q)) with
            | true =>
              rw [if_pos hq] at q4
              have hk2 : (if unsB V (chosenI l (remI ks q)) = true then (2 : Int) else 1) = 2 := by rw [hq]; rfl
              ((repeat' (first | (apply WL.opN; exact yF; dsimp only [setD, z0, z1]) | refine WL.nil ?_ | refine WC.seqK fun Kx hK => ?_ | (refine hK _ _ ?_; clear hK) | refine WC.region ?_ |  (refine WL.callC (hp := []) (hp1 := []) (caps := []) (clone_c ks (by omega)) Try.call52 OpD.f (by (exact aD)) ?_; rintro d' hp2 ⟨vc, rfl, rfl⟩; dsimp only [setD, z0, z1, List.cons_append, List.nil_append]) |  (refine WL.callC (hp := []) (hp1 := [hRow vc tI RI ks]) (caps := []) (hD vc) Try.call64 OpD.f (ArgsD.cons (OpD.t rfl) (ArgsD.cons (OpD.tle rfl (le_ii hqi)) (ArgsD.cons (OpD.tle rfl (le_ii (by omega))) ArgsD.nil))) ?_; rintro d' hp2 ⟨vd, rfl, rfl⟩; dsimp only [setD, z0, z1, List.cons_append, List.nil_append]; refine WL.keep1 (s := 49) rfl ?_; dsimp only [z0, z1]) | (apply WL.opN; (focus ((first | (refine SY.mono (d' := dI 2) (SY.dynF (x := (⟨remI ks q, hrr, hrk⟩ : KsOf l)) (OpD.t rfl) (ArgsD.cons (OpD.t rfl) ArgsD.nil)) (le_ii hk2)) | ((first | apply SY.move | apply SY.assign | apply SY.lss | apply SY.geq | apply SY.eql | apply SY.neq) <;> (exact oD)) | ((first | apply SY.add | apply SY.sub) <;> first | exact oD | omega) | fail); all_goals infer_instance)); dsimp only [setD, z0, z1]) | (apply WC.condD; (exact oD); all_goals (intro h; try exact xD)) | refine WC.skip ?_ | refine WC.block ?_ | refine ThenD.n ?_)); all_goals (first | ((repeat clear hK); (repeat clear Kx))))
              all_goals try (exfalso; first | contradiction | omega)
              (refine ⟨(q, remI ks q), ?_, by first | omega | (simp only; omega), rfl, ?_⟩; rotate_left; ((try dsimp only [upds, z0, z1]); repeat (first | exact LeF.nil | refine LeF.co (k := ?_))); (try dsimp only))
              exact ⟨by omega, hrk, hrr, q4⟩
            | false =>
              rw [if_neg (by rw [hq]; decide)] at q4
              have hk2 : (if unsB V (chosenI l (remI ks q)) = true then (2 : Int) else 1) = 1 := by rw [hq]; rfl
              ((repeat' (first | (apply WL.opN; exact yF; dsimp only [setD, z0, z1]) | refine WL.nil ?_ | refine WC.seqK fun Kx hK => ?_ | (refine hK _ _ ?_; clear hK) | refine WC.region ?_ |  (refine WL.callC (hp := []) (hp1 := []) (caps := []) (clone_c ks (by omega)) Try.call52 OpD.f (by (exact aD)) ?_; rintro d' hp2 ⟨vc, rfl, rfl⟩; dsimp only [setD, z0, z1, List.cons_append, List.nil_append]) |  (refine WL.callC (hp := []) (hp1 := [hRow vc tI RI ks]) (caps := []) (hD vc) Try.call64 OpD.f (ArgsD.cons (OpD.t rfl) (ArgsD.cons (OpD.tle rfl (le_ii hqi)) (ArgsD.cons (OpD.tle rfl (le_ii (by omega))) ArgsD.nil))) ?_; rintro d' hp2 ⟨vd, rfl, rfl⟩; dsimp only [setD, z0, z1, List.cons_append, List.nil_append]; refine WL.keep1 (s := 49) rfl ?_; dsimp only [z0, z1]) | (apply WL.opN; (focus ((first | (refine SY.mono (d' := dI 1) (SY.dynF (x := (⟨remI ks q, hrr, hrk⟩ : KsOf l)) (OpD.t rfl) (ArgsD.cons (OpD.t rfl) ArgsD.nil)) (le_ii hk2)) | ((first | apply SY.move | apply SY.assign | apply SY.lss | apply SY.geq | apply SY.eql | apply SY.neq) <;> (exact oD)) | ((first | apply SY.add | apply SY.sub) <;> first | exact oD | omega) | fail); all_goals infer_instance)); dsimp only [setD, z0, z1]) | (apply WC.condD; (exact oD); all_goals (intro h; try exact xD)) | refine WC.skip ?_ | refine WC.block ?_ | refine ThenD.n ?_)); all_goals (first | ((repeat clear hK); (repeat clear Kx))))
              all_goals try (exfalso; first | contradiction | omega)
              (refine ⟨(q, ks), ?_, by first | omega | (simp only; omega), rfl, ?_⟩; rotate_left; ((try dsimp only [upds, z0, z1]); repeat (first | exact LeF.nil | refine LeF.co (k := ?_))); (try dsimp only))
              exact ⟨by omega, q2, q3, q4⟩
end Go.Proofs.Ytpiidgcljlalmaa
namespace Go.Proofs.Ytpiidgcljlalmaa
open Go.RowKit
open S43 (beginS up)
theorem CallC.froz1 {P : Program} {f : FuncId} {ds : List Dat} {hp1 O : List HObj} {e : TypeId} {α : Type} {R : Rel α} {_gR : Good R} {xs : List α} (h : CallC P f ds hp1 fun d hp2 => ∃ v, d = dX v ∧ hp2 = hRow v e R xs :: O) : CallC P f ds hp1 fun d hp2 => d = dS (Arr R) xs ∧ hp2 = O := ⟨fun P0 B w0 hp vs W hh hl hv => by
  refine Calls.mono (h.out P0 B w0 hp vs W hh hl hv) fun e' W' ⟨v, d, hp2, he, hk, hh2, hd⟩ => ?_
  obtain ⟨u, rfl, rfl⟩ := hk
  have hvu : v = u := hd
  refine ⟨v, _, _, he, ⟨rfl, rfl⟩, hh2.drop, ?_⟩
  rw [hvu]
  exact Own.keep hh2⟩
theorem shape_Z43 : (dX (.agg #[.int .i64 0, .slice none 0 0])).Shape 2 true := fun _ _ _ h => by cases (h : _ = _); exact ⟨[.int .i64 0, .slice none 0 0], rfl, by decide, by simp [Value.oneCell'], rfl, rfl⟩
def UnderR (V : Nat) (l : List (List Int)) (a : List Int) (v : Int) (m c : List Int) : Prop :=
  (v = 1 ∧ c = [] ∧ m ∈ allF V l [] ∧ ∀ x ∈ a, x ∈ m) ∨ (v = 2 ∧ m = [] ∧ List.Sublist c a ∧ ∀ m ∈ allF V l [], ¬ ∀ x ∈ c, x ∈ m)
def impB (V : Nat) (l : List (List Int)) (c : List Int) : Bool := (allF V l []).all fun m => trueI c m
set_option linter.unusedSimpArgs false
set_option linter.unusedVariables false
set_option maxHeartbeats 2000000
set_option maxRecDepth 100000
set_option maxHeartbeats 8000000 in
theorem assign43_p (V : Nat) (l : List (List Int)) (a : List Int) (hV : V ≤ 4096) (hck : checkI (V : Int) l = 0) (hA : Asn V a) : Fn Try.prog 62 [dS Cls ((V : Int), l), dS Ints a] (dT [dS Cls ((V : Int), leftR l a), dI 0]) := by
  obtain ⟨_, _, hll, hcl⟩ := checkI_zero hck
  have hw : WfL V l := (clausesI_iff hV).1 hcl
  have h1 := assignment_ok V l a hV (irr_wf hV hw) hck hA
  have h2 := fun b6 bm => applyR_c V b6 bm a l hV hA (fun c hc => (hw c hc).rng) (fun c hc => by have := S43.trail_len (V := V) (hw c hc).rng ((hw c hc).inc.imp fun h => by omega); omega) (by omega)
  refine Fn.introC2 tyV Try.func62 rfl rfl ?_
  -- @kinds clauses.Assign
  simp only [Try.ntmps62, List.length_cons, List.length_nil, Nat.reduceAdd, Nat.reduceSub, List.replicate_succ, List.replicate_zero, List.cons_append, List.nil_append]
  (repeat' (first |  (refine WC.only 4 (Halt.go ?_)) | ((first | apply WL.opN | apply WD.opN); exact yF; dsimp only [setD, z0, z1]) | refine WL.nil ?_ | refine WC.seqK fun Kx hK => ?_ | (refine hK _ _ ?_; clear hK) | refine WC.region ?_ |  (refine WL.alloc (dst := some 4) (T := 24) tzV shape_Z43 fun b4 => ?_; dsimp only [setD, z0, z1]) |  (refine WL.callC (hp1 := []) (caps := []) h1 Try.call85 OpD.f (ArgsD.cons (OpD.t rfl) (ArgsD.cons (OpD.t rfl) ArgsD.nil)) ?_; rintro d' hp2 ⟨e2, e3, rfl, bm, rfl, rfl, rfl⟩; dsimp only [setD, z0, z1, List.cons_append, List.nil_append]) |  (refine WL.alloc (dst := some 6) (T := 106) tzVa (shape_X rfl) fun b6 => ?_; dsimp only [setD, z0, z1]) |  (refine WL.ofSW (SW.storeK tyVa (OpD.t rfl) (OpD.t rfl) (shape_X rfl)) fun _ => ?_; dsimp only [setD, z0, z1]) | ((first | apply WL.opN | apply WD.opN); (focus ((first | ((first | apply SY.move | apply SY.assign | apply SY.neq) <;> (exact oD)) | (apply SY.extract; (exact oD); rfl) | (apply SY.box; (exact oD); (exact hD)) | fail); all_goals infer_instance)); dsimp only [setD, z0, z1]) | (apply WC.condN; (exact oD); all_goals (intro h; try exact xD)) | refine WC.skip ?_))
  all_goals try (exfalso; first | contradiction | omega)
  refine ⟨?_⟩
  ((repeat' (first |  (refine WC.drawM (fun _ => True) 6 3 [(0, false), (1, false), (2, false), (3, false), (4, false), (5, true)] [true, true, true, true, true, true, false, false, false] (by kernel_rfl) (by kernel_rfl) (by kernel_rfl) rfl (trivial) ?_) |  (first | refine WA.one (S := [true, true, true, true, true, true, false, false, false]) (i := 6) (by kernel_rfl) rfl ?_ | refine WA.one (S := [true, true, true, true, true, true, true, false, false]) (i := 7) (by kernel_rfl) rfl ?_ | refine WA.one (S := [true, true, true, true, true, true, true, true, false]) (i := 8) (by kernel_rfl) rfl ?_ | refine WA.nil (S := [true, true, true, true, true, true, true, true, true]) (by kernel_rfl) ?_) |  (refine WM.writeL rfl (SW.callC (hp1 := aO b6 bm a) (caps := []) (H := fun _ : Unit => aO b6 bm a) (D := fun _ => dS Rows (leftR l a)) (h2 b6 bm).froz1 Try.call86 OpD.f (ArgsD.cons (OpD.t rfl) (ArgsD.cons (OpD.t rfl) ArgsD.nil)) (fun _ _ h => ⟨(), h.1, h.2⟩)) (fun _ => trivial) fun _ => ?_; dsimp only [setD, z0, z1, List.cons_append, List.nil_append]) | (refine WM.nil ?_) | (apply WM.readL rfl; (focus (intro c hcc; apply SYG.yes; (exact want_none rfl); ((first | (exact SY.makeX (vs := [ptrN b6]) (ArgsX.one (OpD.t rfl))) | (apply SY.load; (exact tD); (exact oD)) | (apply SY.fldP0 clT; exact OpD.t rfl) | (apply SY.fldP1 clT; exact OpD.t rfl) | fail); all_goals infer_instance))); dsimp only [setD, z0, z1]) | ((first | apply WL.opN | apply WD.opN); exact yF; dsimp only [setD, z0, z1]) | refine WL.nil ?_ | (refine hK _ _ ?_; clear hK) |  (refine WL.perm (perm_at (i := 2) rfl) (WL.storeF tyV rfl (OpD.t rfl) (shape_Agg (by decide) rfl) ?_); dsimp only [setD, z0, z1, List.eraseIdx_cons_succ, List.eraseIdx_cons_zero]) | ((first | apply WL.opN | apply WD.opN); (focus ((first | (exact SY.mkA is_A (OpD.t rfl) (OpD.t rfl)) | fail); all_goals infer_instance)); dsimp only [setD, z0, z1]) | refine WC.ret ?_)); all_goals (first | ((repeat clear hK); (repeat clear Kx))))
  all_goals try (exfalso; first | contradiction | omega)
  exact ⟨trivial, ⟨_, rfl, FinD.le (agg_le (Dat.le_refl _) (Dat.le_refl _))⟩, _, rfl, FinD.le (le_ii rfl)⟩
set_option maxHeartbeats 8000000 in
theorem under_c (V : Nat) (l : List (List Int)) (a : List Int) (hV : V ≤ 10) (hck : checkI (V : Int) l = 0) (hA : Asn V a) :
    CallC Try.prog 30 ([dS Cls ((V : Int), l), dS Ints a] ++ ([] : List Value).map dX) [] (fun d hp2 => hp2 = [] ∧ ∃ e2 e3 e4 e5, d = dT [e2, e3, e4, e5] ∧ ∃ v m c, e2 = dI v ∧ e3 = dS Ints m ∧ e4 = dS Ints c ∧ e5 = dI 0 ∧ UnderR V l a v m c) := by
  obtain ⟨_, _, hll, hcl⟩ := checkI_zero hck
  have hl : WfL V l := (clausesI_iff (by omega)).1 hcl
  have h1 := assign43_p V l a (by omega) hck hA
  have hal := hA.len
  have hb := begin_z V l (by omega) hl (by omega)
  have hr := fun (X : Lay) (hX : X.cf = 0) => run_z X V a l hV (by omega) hA.rng (by omega) hl hX
  refine CallC.intro4 Try.func30 rfl rfl (fun hp => ?_)
  -- @kinds solver.Under
  simp only [Try.ntmps30, List.length_cons, List.length_nil, List.length_append, List.length_map, Nat.reduceAdd, Nat.reduceSub, List.replicate_succ, List.replicate_zero, List.cons_append, List.nil_append, List.map_cons, List.map_nil, List.append_assoc]
  (repeat' (first |  (refine WC.only 5 (Halt.go ?_)) | (apply WL.opN; exact yF; dsimp only [setD, z0, z1]) | refine WL.nil ?_ | refine WC.seqK fun Kx hK => ?_ | (refine hK _ _ ?_; clear hK) | refine WC.region ?_ |  (refine WL.alloc (dst := some 8) (T := 24) tzV shape_Z43 fun b8 => ?_; dsimp only [setD, z0, z1]) |  (refine WL.ofSW (SW.storeK tyV (OpD.t rfl) (OpD.t rfl) shape_P) fun _ => ?_; dsimp only [setD, z0, z1]) |  (refine WL.callC (hp1 := []) (caps := []) hb Try.call47 OpD.f (by (exact aD)) ?_; rintro d' hp2 ⟨X, hX, rfl, rfl⟩; dsimp only [setD, z0, z1]) |  (refine WL.callC (hp1 := runO X V (beginS l) [] []) (caps := []) (hr X hX) Try.call48 OpD.f (ArgsD.cons (OpD.t rfl) (ArgsD.cons (OpD.t rfl) ArgsD.nil)) ?_; rintro d' hp2 ⟨k, res, lr, Y, s, rfl, rfl, hYb, hRR, hSS⟩; dsimp only [setD, z0, z1, List.cons_append, List.nil_append]) | (apply WL.opN; (focus ((first | (apply SY.call (h1) Try.call62; (exact aD)) | ((first | apply SY.move | apply SY.assign | apply SY.eql | apply SY.neq) <;> (exact oD)) | (apply SY.fldP0 clT; exact OpD.t rfl) | (apply SY.fldP1 clT; exact OpD.t rfl) | (apply SY.extract; (exact oD); rfl) | (apply SY.box; (exact oD); (exact hD)) | fail); all_goals infer_instance)); dsimp only [setD, z0, z1]) | (apply WC.condN; (exact oD); all_goals (intro h; try exact xD)) | refine WC.skip ?_))
  all_goals try (exfalso; first | contradiction | omega)
  refine ⟨?_⟩
  rcases hRR.is with rfl | rfl
  · have hfin := hRR.yes rfl
    clear hRR hSS
    ((repeat' (first | (apply WL.opN; exact yF; dsimp only [setD, z0, z1]) | refine WL.nil ?_ | refine WC.seqK fun Kx hK => ?_ | (refine hK _ _ ?_; clear hK) | refine WC.region ?_ | (apply WL.opN; (focus ((first | ((first | apply SY.move | apply SY.assign | apply SY.eql | apply SY.neq) <;> (exact oD)) | fail); all_goals infer_instance)); dsimp only [setD, z0, z1]) | (apply WC.condD; (exact oD); all_goals (intro h; try exact xD)) | refine WC.ret ?_ | refine WC.block ?_ | refine ThenD.r ?_ | refine InBlockD.r ?_)); all_goals (first | ((repeat clear hK); (repeat clear Kx))))
    all_goals try (exfalso; first | contradiction | omega)
    exact ⟨trivial, _, _, _, _, dI 1, dS Ints res, dS Ints [], dI 0, rfl, rfl, rfl, rfl, Dat.le_refl _, Dat.le_refl _, Dat.le_nil, le_ii rfl, ⟨[_, _, _], rfl⟩, 1, res, [], rfl, rfl, rfl, rfl, .inl ⟨rfl, rfl, hfin.1, hfin.2⟩⟩
  · have hfin := hRR.no rfl
    clear hRR hSS
    ((repeat' (first | (apply WL.opN; exact yF; dsimp only [setD, z0, z1]) | refine WL.nil ?_ | refine WC.seqK fun Kx hK => ?_ | (refine hK _ _ ?_; clear hK) | refine WC.region ?_ | (apply WL.opN; (focus ((first | ((first | apply SY.move | apply SY.assign | apply SY.eql | apply SY.neq) <;> (exact oD)) | fail); all_goals infer_instance)); dsimp only [setD, z0, z1]) | (apply WC.condD; (exact oD); all_goals (intro h; try exact xD)) | refine WC.ret ?_ | refine WC.block ?_ | refine ThenD.r ?_ | refine InBlockD.r ?_)); all_goals (first | ((repeat clear hK); (repeat clear Kx))))
    all_goals try (exfalso; first | contradiction | omega)
    exact ⟨trivial, _, _, _, _, dI 2, dS Ints [], dS Ints res, dI 0, rfl, rfl, rfl, rfl, Dat.le_refl _, Dat.le_nil, Dat.le_refl _, le_ii rfl, ⟨[_, _, _], rfl⟩, 2, [], res, rfl, rfl, rfl, rfl, .inr ⟨rfl, rfl, hfin.1, hfin.2⟩⟩
end Go.Proofs.Ytpiidgcljlalmaa
