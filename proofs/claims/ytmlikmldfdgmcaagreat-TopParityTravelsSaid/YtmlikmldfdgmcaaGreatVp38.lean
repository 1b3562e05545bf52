/-
  Part 38 of the texts that the claims of this seat lean on: walks of the program's functions by contracts over symbolic frames, and plain laws of what they compute. No condition.
-/
import Derived.Deep.SlicePairs
import Derived.Lib.SmallJoins
import Derived.OpenShut
import Derived.ProofKit
import Derived.Test.YtmlikmldfdgmcaaGreatRows
import Derived.Test.YtmlikmldfdgmcaaGreatVp11
import Derived.Test.YtmlikmldfdgmcaaGreatVp35
import Derived.Test.YtmlikmldfdgmcaaGreatVp37
set_option linter.unusedVariables false
set_option linter.unusedSimpArgs false
set_option linter.unusedSectionVars false
namespace Go.Proofs.YtmlikmldfdgmcaaGreat
open Go.RowKit
set_option linter.unusedSimpArgs false

set_option maxHeartbeats 2000000
set_option maxRecDepth 100000
theorem chkLG_ok : ∀ {p : Option Vx} {vs : List Vx} {A : List Int}, Asc vs → (∀ u ∈ p, ∀ v ∈ vs, cmpV u v < 0) → (∀ v ∈ vs, rngV v = true) → (∀ a ∈ A, 1 ≤ a ∧ a < 256) → chkLG p vs A = 0
  | _, [], [], _, _, _, _ => rfl
  | _, [], _ :: _, _, _, _, _ => rfl
  | _, _ :: _, [], _, _, _, _ => rfl
  | p, v :: vs, a :: A, h1, h2, h3, h4 => by
    unfold chkLG
    rw [if_neg (by rw [h3 v (by simp)]; decide)]
    have hb : ¬ befV p v := by
      cases p with
      | none => exact fun h => h
      | some u =>
        have := h2 u rfl v (by simp)
        show ¬ 0 ≤ cmpV u v
        omega
    rw [if_neg hb, if_neg (by have := h4 a (by simp); omega)]
    have h1' := List.pairwise_cons.1 h1
    exact chkLG_ok h1'.2 (fun u hu w hw => by cases hu; exact h1'.1 w hw) (fun w hw => h3 w (List.mem_cons_of_mem _ hw)) (fun b hb => h4 b (List.mem_cons_of_mem _ hb))
theorem chkLb_ok {vs : List Vx} {A : List Int} (hl : vs.length ≤ 4096) (hA : A.length = vs.length) (h1 : Asc vs) (h3 : ∀ v ∈ vs, rngV v = true) (h4 : ∀ a ∈ A, 1 ≤ a ∧ a < 256) : chkLb vs A = 0 := by
  unfold chkLb
  rw [if_neg (by omega), if_neg (by omega)]
  exact chkLG_ok h1 (fun u hu => by cases hu) h3 h4
theorem lab7 (n : List Int) (k m : Nat) (hm : m ≤ k) : ∀ a ∈ labL (List.replicate k 7) n m, Lab3I a := fun a ha => by
  unfold labL at ha
  obtain ⟨j, hj, rfl⟩ := List.mem_map.1 ha
  have hjm := List.mem_range.1 hj
  have e : (List.replicate k 7).getD j 0 = 7 := by simp [List.getD, show j < k by omega]
  rw [e]
  have := lab_seven ⟨startL n j, startL_lt n j⟩
  unfold Lab3I
  unfold Lab3 at this
  simp only at this
  omega
theorem lab7_len (sets : List Nat) (n : List Int) (m : Nat) : (labL sets n m).length = m := by simp [labL]
theorem lab3_rng {a : Int} (h : Lab3I a) : 1 ≤ a ∧ a < 256 := by unfold Lab3I at h; omega
theorem lab3_sgl {A : List Int} (h : ∀ a ∈ A, Lab3I a) : sglP A = true := by
  unfold sglP
  rw [Bool.not_eq_true', List.any_eq_false]
  intro m hm
  have h1 : iand 1 (1 - 1) = 0 := by decide +kernel
  have h2 : iand 2 (2 - 1) = 0 := by decide +kernel
  have h3 : iand 4 (4 - 1) = 0 := by decide +kernel
  rcases h m hm with rfl | rfl | rfl
  · rw [h1]; decide
  · rw [h2]; decide
  · rw [h3]; decide
theorem cov_ok {l : Cx} {f : Vx → Int} (h : ∀ s ∈ l, ∀ v ∈ s, f v ≠ 0) : covP l f = true := by
  unfold covP
  rw [List.all_eq_true]
  intro s hs
  rw [Bool.not_eq_true', List.any_eq_false]
  intro v hv
  simpa using h s hs v hv
theorem rbw_seven {l : Cx} {f : Vx → Int} (h : ∀ s ∈ l, s.length = 3) : rbwL l f = l.filter fun s => decide (orL f s = 7) := by
  unfold rbwL
  refine List.filter_congr fun s hs => ?_
  rw [h s hs]
  rfl
theorem parity31 {l b : Cx} {n : List Int} (hf : fewAllV l = true) (h0 : chkC l = 0) (hb : bndP l = (b, 0)) (hd : dimC l = 2) (hs : sizeP l = true) :
    rbwP l (ptsC l) (labL (List.replicate (ptsC l).length 7) n (ptsC l).length) = (rbwL l (findL (ptsC l) (labL (List.replicate (ptsC l).length 7) n (ptsC l).length)), 0) ∧
      ((rbwL l (findL (ptsC l) (labL (List.replicate (ptsC l).length 7) n (ptsC l).length))).length : Int).tmod 2 = (cntP b (findL (ptsC l) (labL (List.replicate (ptsC l).length 7) n (ptsC l).length)) 3).tmod 2 := by
  have G := goodX_iff.1 h0
  have hP := ptsC_asc l
  have hA := lab7_len (List.replicate (ptsC l).length 7) n (ptsC l).length
  have hL := lab7 n (ptsC l).length (ptsC l).length (Nat.le_refl _)
  have hPl : ∀ s ∈ l, ∀ v ∈ s, v ∈ ptsC l := fun s hs v hv => ptsC_mem.2 ⟨s, hs, hv⟩
  have hfl := flat_len (l := l) G.short
  have hpl : (ptsC l).length ≤ l.flatten.length := by
    have := List.Nodup.length_le_of_subset (asc_nod hP) (l₂ := l.flatten) fun v hv => by
      obtain ⟨s, hs, hv⟩ := ptsC_mem.1 hv
      exact List.mem_flatten.2 ⟨s, hs, hv⟩
    exact this
  have hl3 := few_len hf
  generalize labL (List.replicate (ptsC l).length 7) n (ptsC l).length = A at *
  have hrng : ∀ v ∈ ptsC l, rngV v = true := fun v hv => by
    obtain ⟨s, hs, hv⟩ := ptsC_mem.1 hv
    exact (chkV_zero.1 (G.2.2.1 s hs)).2.2.1 v hv
  have hlab : ∀ s ∈ l, ∀ v ∈ s, Lab3I (findL (ptsC l) A v) := fun s hs v hv => findL_lab hP hA hL (hPl s hs v hv)
  have e1 : chkLb (ptsC l) A = 0 := chkLb_ok (by omega) hA hP hrng fun a ha => lab3_rng (hL a ha)
  have e2 : covP l (findL (ptsC l) A) = true := cov_ok fun s hs v hv => by have := lab3_rng (hlab s hs v hv); omega
  have e3 := lab3_sgl hL
  refine ⟨?_, ?_⟩
  · unfold rbwP
    rw [if_neg (by omega), if_neg (by omega), if_neg (by simp [e2]), if_neg (by simp [e3])]
  · have h1 := parity_final G hb hd hs hPl hP hA hL
    rw [rbw_seven (tri_len hd hs)]
    unfold cntP
    exact (tmod_nat _ 2).trans ((congrArg (fun k : Nat => (k : Int)) h1).trans (tmod_nat _ 2).symm)
theorem bnd_short {l b : Cx} (h0 : chkC l = 0) (hb : bndP l = (b, 0)) (hd : dimC l = 2) : ∀ s ∈ b, s.length ≤ 1000000 := fun s hs => by
  unfold bndP at hb
  rw [if_neg (by omega)] at hb
  split at hb
  · injection hb with _ h; cases h
  · split at hb
    · injection hb with hb _
      rw [← hb] at hs
      obtain ⟨t, _, hm⟩ := allC_mem.1 (List.mem_filter.1 hs).1
      have := ((subsV_mem _ _ _).1 hm).2
      omega
    · injection hb with _ h; cases h
theorem pts_few {l : Cx} (hf : fewAllV l = true) (h0 : chkC l = 0) : (ptsC l).length ≤ 240 := by
  have hfl := flat_len (l := l) (goodX_iff.1 h0).short
  have := List.Nodup.length_le_of_subset (asc_nod (ptsC_asc l)) (l₂ := l.flatten) fun v hv => by
    obtain ⟨s, hs, hv⟩ := ptsC_mem.1 hv
    exact List.mem_flatten.2 ⟨s, hs, hv⟩
  have := few_len hf
  omega
theorem rep_snoc (k : Nat) : intsB (List.replicate (k + 1) 7) = intsB (List.replicate k 7) ++ [7] := by
  rw [List.replicate_succ', intsB_snoc]
  rfl
theorem fin_bnd {l : Cx} (h0 : chkC l = 0) : (bndP l).2 = 0 ∨ (bndP l).2 = 15 := by
  unfold bndP
  rw [if_neg (by omega)]
  split
  · exact .inr rfl
  · split
    · exact .inl rfl
    · exact .inr rfl
set_option maxHeartbeats 16000000 in
theorem parity31_p (l : Cx) (n : List Int) : Fn Tryz.prog 3 [dS Cpx l, dS Byts n] (dB true) := by
  (refine Fn.intro1 Tryz.func3 rfl rfl ?_; simp only [Tryz.ntmps3, List.length_cons, List.length_nil, Nat.reduceAdd, Nat.reduceSub, List.replicate_succ, List.replicate_zero, List.cons_append, List.nil_append])
  refine WC.know (t := 1) rfl le_A fun hl1 => ?_
  simp only [maxLen] at hl1
  have c0 := fewC_c l
  have c1 := chk27_c l
  cases hf : fewAllV l with
  | false =>
    rw [hf] at c0
    ((repeat' (first | (apply WL.opN; exact yF; dsimp only [setD, z0, z1]) | refine WL.nil ?_ | refine WC.seqK fun Kx hK => ?_ | (refine hK _ _ ?_; clear hK) | refine WC.region ?_ | (apply WL.opG; (focus (first | exact wN | (apply SYG.yes; (exact wY); ((first | (apply SY.call (awake31_p) Tryz.call4; (exact aD)) | (apply SY.call (c0) Tryz.call5; (exact aD)) | ((first | apply SY.move | apply SY.assign | apply SY.lss | apply SY.gtr | apply SY.eql | apply SY.neq | apply SY.not) <;> (exact oD)) | (apply SY.pickT; (exact oD); (with_reducible rfl); (exact oD)) | (apply SY.box; (exact oD); (exact hD)) | fail); all_goals infer_instance)))); dsimp only [setD, z0, z1]) | ((first | refine WL.caseP rfl rfl rfl (fun h => ?_) (fun h => ?_) | refine WL.caseN rfl rfl rfl (fun h => ?_) (fun h => ?_) | refine WL.caseB rfl rfl rfl (fun h => ?_) (fun h => ?_)) <;> (first | (exfalso; first | omega | contradiction) | (dsimp only [z0, z1]))) | (apply WC.condT; (exact oD); (with_reducible rfl)) | (apply WC.condNB; (exact oD); all_goals (intro h; try exact xD)) | refine WC.skip ?_ | refine WC.ret ?_ | refine ThenD.r ?_)); all_goals (first | ((repeat clear hK); (repeat clear Kx))))
    all_goals try (exfalso; first | contradiction | omega)
    (refine ⟨trivial, _, rfl, ?_⟩; exact fD)
  | true =>
    rw [hf] at c0
    by_cases h0 : chkC l = 0
    · rw [h0] at c1
      by_cases hn : 60 < n.length
      · ((repeat' (first | (apply WL.opN; exact yF; dsimp only [setD, z0, z1]) | refine WL.nil ?_ | refine WC.seqK fun Kx hK => ?_ | (refine hK _ _ ?_; clear hK) | refine WC.region ?_ | (apply WL.opG; (focus (first | exact wN | (apply SYG.yes; (exact wY); ((first | (apply SY.call (awake31_p) Tryz.call4; (exact aD)) | (apply SY.call (c0) Tryz.call5; (exact aD)) | (apply SY.call (c1) Tryz.call6; (exact aD)) | (apply SY.len; exact OpD.t rfl; exact len_A; exact elY.unt) | ((first | apply SY.move | apply SY.assign | apply SY.lss | apply SY.gtr | apply SY.eql | apply SY.neq | apply SY.not) <;> (exact oD)) | (apply SY.load; (exact tD); (exact oD)) | (apply SY.pickF; (exact oD); (with_reducible rfl); (exact oD)) | (apply SY.box; (exact oD); (exact hD)) | fail); all_goals infer_instance)))); dsimp only [setD, z0, z1]) | ((first | refine WL.caseP rfl rfl rfl (fun h => ?_) (fun h => ?_) | refine WL.caseN rfl rfl rfl (fun h => ?_) (fun h => ?_) | refine WL.caseB rfl rfl rfl (fun h => ?_) (fun h => ?_)) <;> (first | (exfalso; first | omega | contradiction) | (dsimp only [z0, z1]))) | (apply WC.condD; (exact oD); all_goals (intro h; try exact xD)) | (apply WC.condNB; (exact oD); all_goals (intro h; try exact xD)) | refine WC.skip ?_ | refine WC.ret ?_ | refine ThenD.r ?_)); all_goals (first | ((repeat clear hK); (repeat clear Kx))))
        all_goals try (exfalso; first | contradiction | omega)
        (refine ⟨trivial, _, rfl, ?_⟩; exact fD)
      · have c2 := dimensionX_p l
        rw [if_neg (by omega), if_neg (by omega), h0] at c2
        have c3 := boundary27_p l
        have c4 := vertices27_p l (by have := few_len hf; omega)
        have e4 : vrtP l = (ptsC l, 0) := by unfold vrtP; rw [if_neg (by omega)]
        rw [e4] at c4
        simp only at c4
        obtain ⟨b, e, hbe⟩ : ∃ b e, bndP l = (b, e) := ⟨_, _, rfl⟩
        have hb15 := fin_bnd h0
        rw [hbe] at c3 hb15
        simp only at c3 hb15
        by_cases he : e = 0
        · subst he
          by_cases hd : dimC l = 2
          · cases hs : sizeP l with
            | false =>
              rw [hs] at c2
              ((repeat' (first | (apply WL.opN; exact yF; dsimp only [setD, z0, z1]) | refine WL.nil ?_ | refine WC.seqK fun Kx hK => ?_ | (refine hK _ _ ?_; clear hK) | refine WC.region ?_ | (apply WL.alloc; (first | exact tzV | exact tzC); (first | exact shape_X rfl | exact shape_XV | exact shape_C0 rfl); (intro _; dsimp only [setD, z0, z1])) | (apply WL.storeF; (exact tD); rfl; (exact oD); (exact hD); dsimp only [setD, z0, z1]) | (apply WL.opG; (focus (first | exact wN | (apply SYG.yes; (exact wY); ((first | (apply SY.call (awake31_p) Tryz.call4; (exact aD)) | (apply SY.call (c0) Tryz.call5; (exact aD)) | (apply SY.call (c1) Tryz.call6; (exact aD)) | (apply SY.call (c2) Tryz.call7; (exact aD)) | (apply SY.call (c3) Tryz.call8; (exact aD)) | (apply SY.call (c4) Tryz.call9; (exact aD)) | (apply SY.len; exact OpD.t rfl; exact len_A; exact elY.unt) | ((first | apply SY.move | apply SY.assign | apply SY.lss | apply SY.gtr | apply SY.eql | apply SY.neq | apply SY.not) <;> (exact oD)) | (apply SY.load; (exact tD); (exact oD)) | (apply SY.pickF; (exact oD); (with_reducible rfl); (exact oD)) | (apply SY.extract; (exact oD); rfl) | (apply SY.box; (exact oD); (exact hD)) | fail); all_goals infer_instance)))); dsimp only [setD, z0, z1]) | ((first | refine WL.caseP rfl rfl rfl (fun h => ?_) (fun h => ?_) | refine WL.caseN rfl rfl rfl (fun h => ?_) (fun h => ?_) | refine WL.caseB rfl rfl rfl (fun h => ?_) (fun h => ?_)) <;> (first | (exfalso; first | omega | contradiction) | (dsimp only [z0, z1]))) | (apply WC.condF; (exact oD); (with_reducible rfl)) | (apply WC.condD; (exact oD); all_goals (intro h; try exact xD)) | (apply WC.condNB; (exact oD); all_goals (intro h; try exact xD)) | refine WC.skip ?_ | refine WC.ret ?_ | refine ThenD.r ?_)); all_goals (first | ((repeat clear hK); (repeat clear Kx))))
              all_goals try (exfalso; first | contradiction | omega)
              (refine ⟨trivial, _, rfl, ?_⟩; exact fD)
            | true =>
              rw [hs] at c2
              have hpf := pts_few hf h0
              have c5 := labeling_p (ptsC l) (List.replicate (ptsC l).length 7) n (fun m hm => by rw [(List.mem_replicate.1 hm).2]; decide) (by rw [List.length_replicate]; omega)
              rw [List.length_replicate] at c5
              obtain ⟨e5, e6⟩ := parity31 (n := n) hf h0 hbe hd hs
              have hA := lab7_len (List.replicate (ptsC l).length 7) n (ptsC l).length
              have c6 := rainbow_p l (ptsC l) (labL (List.replicate (ptsC l).length 7) n (ptsC l).length)
              rw [e5] at c6
              simp only at c6
              have c7 := count_p b (ptsC l) (labL (List.replicate (ptsC l).length 7) n (ptsC l).length) 3 (ptsC_asc l) hA (by omega) (bnd_short h0 hbe hd)
              generalize labL (List.replicate (ptsC l).length 7) n (ptsC l).length = A at *
              generalize findL (ptsC l) A = f at *
              generalize ptsC l = P at *
              (repeat' (first | (apply WL.opN; exact yF; dsimp only [setD, z0, z1]) | refine WL.nil ?_ | refine WC.seqK fun Kx hK => ?_ | (refine hK _ _ ?_; clear hK) | refine WC.region ?_ |  (refine WL.allocS (dst := some 12) (zs := [.slice none 0 0, .slice none 0 0]) tzLb (by decide) (by simp [Value.oneCell']) fun b12 => ?_; dsimp only [setD, z0, z1, List.map_cons, List.map_nil]) |  (refine WL.storeW tyLb (OpD.t rfl) (OpD.t rfl) rfl rfl ?_; dsimp only [setD]) | (apply WL.alloc; (first | exact tzV | exact tzC); (first | exact shape_X rfl | exact shape_XV | exact shape_C0 rfl); (intro _; dsimp only [setD, z0, z1])) | (apply WL.storeF; (exact tD); rfl; (exact oD); (exact hD); dsimp only [setD, z0, z1]) | (apply WL.opG; (focus (first | exact wN | (apply SYG.yes; (exact wY); ((first | (apply SY.call (awake31_p) Tryz.call4; (exact aD)) | (apply SY.call (c0) Tryz.call5; (exact aD)) | (apply SY.call (c1) Tryz.call6; (exact aD)) | (apply SY.call (c2) Tryz.call7; (exact aD)) | (apply SY.call (c3) Tryz.call8; (exact aD)) | (apply SY.call (c4) Tryz.call9; (exact aD)) | (apply SY.len; exact OpD.t rfl; exact len_A; exact elY.unt) | (exact SY.mkL0 (OpD.t rfl)) | ((first | apply SY.move | apply SY.assign | apply SY.lss | apply SY.gtr | apply SY.eql | apply SY.neq | apply SY.not) <;> (exact oD)) | (apply SY.load; (exact tD); (exact oD)) | (apply SY.len; (exact oD); (exact nD); (exact uD)) | (apply SY.pickF; (exact oD); (with_reducible rfl); (exact oD)) | (apply SY.extract; (exact oD); rfl) | (apply SY.box; (exact oD); (exact hD)) | fail); all_goals infer_instance)))); dsimp only [setD, z0, z1]) | ((first | refine WL.caseP rfl rfl rfl (fun h => ?_) (fun h => ?_) | refine WL.caseN rfl rfl rfl (fun h => ?_) (fun h => ?_) | refine WL.caseB rfl rfl rfl (fun h => ?_) (fun h => ?_)) <;> (first | (exfalso; first | omega | contradiction) | (dsimp only [z0, z1]))) | (apply WC.condF; (exact oD); (with_reducible rfl)) | (apply WC.condD; (exact oD); all_goals (intro h; try exact xD)) | (apply WC.condNB; (exact oD); all_goals (intro h; try exact xD)) | refine WC.skip ?_ | refine WC.block ?_))
              all_goals try (exfalso; first | contradiction | omega)
              refine WC.nilRow 3 RI ?_
              (refine WC.loopU (X := Nat × Value) (fun x => [(75, dI (x.1 : Int)), (76, dA), (77, dA), (78, dA), (79, dA), (80, dA), (81, dA), (82, dA)]) (fun x => (hRow x.2 3 RI (intsB (List.replicate x.1 7)) :: hStr b12 39 [dS Verts P, dX x.2] :: [])) (fun x => P.length - x.1) (fun x => x.1 ≤ P.length) (0, .slice none 0 0) ?start ?frame0 ?objs0 ?round)
              case start => simp
              case frame0 => ((try dsimp only [upds, z0, z1]); repeat (first | exact LeF.nil | refine LeF.co (k := ?_)))
              case objs0 => rfl
              case round =>
                rintro ⟨i, u⟩ q1
                simp only at q1
                dsimp only [upds, z0, z1]
                have hul : (intsB (List.replicate i 7)).length ≤ 1000 := by rw [intsB_len, List.length_replicate]; omega
                by_cases hi : i < P.length
                · ((repeat' (first | (apply WL.opN; exact yF; dsimp only [setD, z0, z1]) | refine WL.nil ?_ | refine WC.seqK fun Kx hK => ?_ | (refine hK _ _ ?_; clear hK) | refine WC.region ?_ |  (refine WL.knowRow1 (.head _) fun h1 => WL.perm (List.Perm.swap _ _ _) (WL.storeS tyIn (OpD.t rfl) (OpD.t rfl) (shape_X h1) (by simp) (WL.perm (List.Perm.swap _ _ _) ?_)); dsimp only [setD, z0, z1]) | ((first | apply WL.pushK | apply WL.push1); (exact eD); exact OpD.t rfl; (exact oD); (intro _; exact hD); (exact (by simp)); (exact (by simp)); (first | exact ⟨by decide, by decide⟩ | skip); decide; (exact lD); (intro _; dsimp only [setD, z0, z1]); all_goals (try infer_instance)) | (apply WL.opG; (focus (first | exact wN | (apply SYG.yes; (exact wY); ((first | (refine SY.fldS strLb (OpD.t rfl) (by decide)) | (refine SY.loadS tyIn (OpD.t rfl) (.tail _ (.head _)) rfl) | ((first | apply SY.move | apply SY.assign | apply SY.lss | apply SY.gtr | apply SY.eql | apply SY.neq | apply SY.not) <;> (exact oD)) | ((first | apply SY.add | apply SY.rem) <;> first | exact oD | omega) | fail); all_goals infer_instance)))); dsimp only [setD, z0, z1]) | (apply WC.condD; (exact oD); all_goals (intro h; try exact xD)) | refine WC.skip ?_ | refine WC.block ?_ | refine ThenD.n ?_)); all_goals (first | ((repeat clear hK); (repeat clear Kx))))
                  all_goals try (exfalso; omega)
                  (refine ⟨(i + 1, _) , ?_, by first | omega | (simp only; omega), by ((try simp only);  (rw [rep_snoc])), ?_⟩; rotate_left; ((try dsimp only [upds, z0, z1]); repeat (first | exact LeF.nil | refine LeF.co (k := ?_))); (try dsimp only))
                  omega
                · have hie : i = P.length := by omega
                  subst hie
                  refine WC.perm (List.Perm.swap _ _ _) (WC.keepS (k := 1) rfl ?_)
                  dsimp only [z0, z1]
                  ((repeat' (first | (apply WL.opN; exact yF; dsimp only [setD, z0, z1]) | refine WL.nil ?_ | refine WC.seqK fun Kx hK => ?_ | (refine hK _ _ ?_; clear hK) | (refine Kont.skip ?_; clear hK) | refine WC.region ?_ |  (refine WL.alloc (dst := some 13) tzLb (shape_X2 rfl rfl) fun b13 => ?_; dsimp only [setD, z0, z1]) |  (refine WL.storeF tyLb rfl (OpD.t rfl) shape_P ?_; dsimp only [setD, z0, z1]) | (apply WL.opG; (focus (first | exact wN | (apply SYG.yes; (exact wY); ((first | (refine SY.loadW tyLb (OpD.t rfl) (.head _) (by decide) rfl) | (apply SY.call c5 Tryz.call10; exact ArgsD.cons (OpD.tle rfl agg_R2) (ArgsD.cons (OpD.t rfl) ArgsD.nil)) | (apply SY.load; exact tyLb; exact OpD.t rfl) | (apply SY.call (c6) Tryz.call11; (exact aD)) | (apply SY.call (c7) Tryz.call12; (exact aD)) | (exact SY.eqlT e6 (OpD.t rfl) (OpD.t rfl)) | ((first | apply SY.move | apply SY.assign | apply SY.lss | apply SY.gtr | apply SY.eql | apply SY.neq | apply SY.not) <;> (exact oD)) | ((first | apply SY.add | apply SY.rem) <;> first | exact oD | omega) | (apply SY.load; (exact tD); (exact oD)) | (apply SY.len; (exact oD); (exact nD); (exact uD)) | (apply SY.fldC cpxT; exact OpD.t rfl) | (apply SY.pickT; (exact oD); (with_reducible rfl); (exact oD)) | (apply SY.extract; (exact oD); rfl) | fail); all_goals infer_instance)))); dsimp only [setD, z0, z1]) | ((first | refine WL.caseP rfl rfl rfl (fun h => ?_) (fun h => ?_) | refine WL.caseN rfl rfl rfl (fun h => ?_) (fun h => ?_) | refine WL.caseB rfl rfl rfl (fun h => ?_) (fun h => ?_)) <;> (first | (exfalso; first | omega | contradiction) | (dsimp only [z0, z1]))) | (apply WC.condD; (exact oD); all_goals (intro h; try exact xD)) | refine WC.ret ?_ | refine WC.exit ?_)); all_goals (first | ((repeat clear hK); (repeat clear Kx))))
                  all_goals try (exfalso; first | contradiction | omega)
                  (refine ⟨trivial, _, rfl, ?_⟩; exact fD)
          · ((repeat' (first | (apply WL.opN; exact yF; dsimp only [setD, z0, z1]) | refine WL.nil ?_ | refine WC.seqK fun Kx hK => ?_ | (refine hK _ _ ?_; clear hK) | refine WC.region ?_ | (apply WL.alloc; (first | exact tzV | exact tzC); (first | exact shape_X rfl | exact shape_XV | exact shape_C0 rfl); (intro _; dsimp only [setD, z0, z1])) | (apply WL.storeF; (exact tD); rfl; (exact oD); (exact hD); dsimp only [setD, z0, z1]) | (apply WL.opG; (focus (first | exact wN | (apply SYG.yes; (exact wY); ((first | (apply SY.call (awake31_p) Tryz.call4; (exact aD)) | (apply SY.call (c0) Tryz.call5; (exact aD)) | (apply SY.call (c1) Tryz.call6; (exact aD)) | (apply SY.call (c2) Tryz.call7; (exact aD)) | (apply SY.call (c3) Tryz.call8; (exact aD)) | (apply SY.call (c4) Tryz.call9; (exact aD)) | (apply SY.len; exact OpD.t rfl; exact len_A; exact elY.unt) | ((first | apply SY.move | apply SY.assign | apply SY.lss | apply SY.gtr | apply SY.eql | apply SY.neq | apply SY.not) <;> (exact oD)) | (apply SY.load; (exact tD); (exact oD)) | (apply SY.pickT; (exact oD); (with_reducible rfl); (exact oD)) | (apply SY.pickF; (exact oD); (with_reducible rfl); (exact oD)) | (apply SY.extract; (exact oD); rfl) | (apply SY.box; (exact oD); (exact hD)) | fail); all_goals infer_instance)))); dsimp only [setD, z0, z1]) | ((first | refine WL.caseP rfl rfl rfl (fun h => ?_) (fun h => ?_) | refine WL.caseN rfl rfl rfl (fun h => ?_) (fun h => ?_) | refine WL.caseB rfl rfl rfl (fun h => ?_) (fun h => ?_)) <;> (first | (exfalso; first | omega | contradiction) | (dsimp only [z0, z1]))) | (apply WC.condT; (exact oD); (with_reducible rfl)) | (apply WC.condF; (exact oD); (with_reducible rfl)) | (apply WC.condD; (exact oD); all_goals (intro h; try exact xD)) | (apply WC.condNB; (exact oD); all_goals (intro h; try exact xD)) | refine WC.skip ?_ | refine WC.ret ?_ | refine ThenD.r ?_)); all_goals (first | ((repeat clear hK); (repeat clear Kx))))
            all_goals try (exfalso; first | contradiction | omega)
            (refine ⟨trivial, _, rfl, ?_⟩; exact fD)
        · have he15 : e = 15 := by omega
          subst he15
          ((repeat' (first | (apply WL.opN; exact yF; dsimp only [setD, z0, z1]) | refine WL.nil ?_ | refine WC.seqK fun Kx hK => ?_ | (refine hK _ _ ?_; clear hK) | refine WC.region ?_ | (apply WL.alloc; (first | exact tzV | exact tzC); (first | exact shape_X rfl | exact shape_XV | exact shape_C0 rfl); (intro _; dsimp only [setD, z0, z1])) | (apply WL.storeF; (exact tD); rfl; (exact oD); (exact hD); dsimp only [setD, z0, z1]) | (apply WL.opG; (focus (first | exact wN | (apply SYG.yes; (exact wY); ((first | (apply SY.call (awake31_p) Tryz.call4; (exact aD)) | (apply SY.call (c0) Tryz.call5; (exact aD)) | (apply SY.call (c1) Tryz.call6; (exact aD)) | (apply SY.call (c2) Tryz.call7; (exact aD)) | (apply SY.call (c3) Tryz.call8; (exact aD)) | (apply SY.call (c4) Tryz.call9; (exact aD)) | (apply SY.len; exact OpD.t rfl; exact len_A; exact elY.unt) | ((first | apply SY.move | apply SY.assign | apply SY.lss | apply SY.gtr | apply SY.eql | apply SY.neq | apply SY.not) <;> (exact oD)) | (apply SY.load; (exact tD); (exact oD)) | (apply SY.pickT; (exact oD); (with_reducible rfl); (exact oD)) | (apply SY.pickF; (exact oD); (with_reducible rfl); (exact oD)) | (apply SY.extract; (exact oD); rfl) | (apply SY.box; (exact oD); (exact hD)) | fail); all_goals infer_instance)))); dsimp only [setD, z0, z1]) | ((first | refine WL.caseP rfl rfl rfl (fun h => ?_) (fun h => ?_) | refine WL.caseN rfl rfl rfl (fun h => ?_) (fun h => ?_) | refine WL.caseB rfl rfl rfl (fun h => ?_) (fun h => ?_)) <;> (first | (exfalso; first | omega | contradiction) | (dsimp only [z0, z1]))) | (apply WC.condT; (exact oD); (with_reducible rfl)) | (apply WC.condD; (exact oD); all_goals (intro h; try exact xD)) | (apply WC.condN; (exact oD); all_goals (intro h; try exact xD)) | (apply WC.condNB; (exact oD); all_goals (intro h; try exact xD)) | refine WC.skip ?_ | refine WC.ret ?_ | refine ThenD.r ?_)); all_goals (first | ((repeat clear hK); (repeat clear Kx))))
          all_goals try (exfalso; first | contradiction | omega)
          (refine ⟨trivial, _, rfl, ?_⟩; exact fD)
    · ((repeat' (first | (apply WL.opN; exact yF; dsimp only [setD, z0, z1]) | refine WL.nil ?_ | refine WC.seqK fun Kx hK => ?_ | (refine hK _ _ ?_; clear hK) | refine WC.region ?_ | (apply WL.opG; (focus (first | exact wN | (apply SYG.yes; (exact wY); ((first | (apply SY.call (awake31_p) Tryz.call4; (exact aD)) | (apply SY.call (c0) Tryz.call5; (exact aD)) | (apply SY.call (c1) Tryz.call6; (exact aD)) | ((first | apply SY.move | apply SY.assign | apply SY.lss | apply SY.gtr | apply SY.eql | apply SY.neq | apply SY.not) <;> (exact oD)) | (apply SY.load; (exact tD); (exact oD)) | (apply SY.pickT; (exact oD); (with_reducible rfl); (exact oD)) | (apply SY.pickF; (exact oD); (with_reducible rfl); (exact oD)) | (apply SY.box; (exact oD); (exact hD)) | fail); all_goals infer_instance)))); dsimp only [setD, z0, z1]) | ((first | refine WL.caseP rfl rfl rfl (fun h => ?_) (fun h => ?_) | refine WL.caseN rfl rfl rfl (fun h => ?_) (fun h => ?_) | refine WL.caseB rfl rfl rfl (fun h => ?_) (fun h => ?_)) <;> (first | (exfalso; first | omega | contradiction) | (dsimp only [z0, z1]))) | (apply WC.condT; (exact oD); (with_reducible rfl)) | (apply WC.condNB; (exact oD); all_goals (intro h; try exact xD)) | refine WC.skip ?_ | refine WC.ret ?_ | refine ThenD.r ?_)); all_goals (first | ((repeat clear hK); (repeat clear Kx))))
      all_goals try (exfalso; first | contradiction | omega)
      (refine ⟨trivial, _, rfl, ?_⟩; exact fD)
end Go.Proofs.YtmlikmldfdgmcaaGreat
namespace Go.Proofs.YtmlikmldfdgmcaaGreat
open Go.ChangeShapes Go.WideShapes Go.ChangeAt Go.RowKit
set_option maxRecDepth 100000

theorem own : ownKnob Tryz.prog.godebug = none := by kernel_rfl
theorem laidOut : laidOutB Tryz.prog = true := by kernel_rfl
theorem cellsV : Tryz.prog.cellsOf 51 = 2 := by kernel_rfl
theorem cellsS : Tryz.prog.cellsOf 34 = 1 := by kernel_rfl
theorem cellsI : Tryz.prog.cellsOf 3 = 1 := by kernel_rfl

section
variable {H : Type} {enc : TypeId × Value → H}
theorem open_V {w : World} {fuel : Nat} {v : Value} {x : DataW H × List MemPlace} (h : DataW.trod enc Tryz.prog w 0 (fun _ => true) true fuel 34 [v] = some x) :
    ∃ xs, Verts anyB w v xs := by
  rcases Deep.open_slice_pairs Tryz.underlying34 Tryz.underlying51 cellsV rfl rfl cellsI cellsI h with ⟨hc, _⟩ | ⟨a, len, cap, m, n, V0, V1, D0, D1, P0, P1, hc, _, hl, hm, hmm, _, hx⟩
  · obtain rfl : v = .slice none 0 0 := by simpa using hc
    exact ⟨[], ArrK.nil' (by decide)⟩
  · obtain rfl : v = .slice (some a) len cap := by simpa using hc
    simp only [if_true] at hmm
    subst hmm
    have hz : ∀ i, ∃ p : Int × Int, i < m → V0 i = .int .i64 p.1 ∧ V1 i = .int .i64 p.2 := fun i => by
      by_cases hi : i < m
      · obtain ⟨_, _, h2, h3⟩ := hx i hi
        obtain ⟨p, hp, _⟩ := DataW.trod_int Tryz.underlying3 h2
        obtain ⟨q, hq, _⟩ := DataW.trod_int Tryz.underlying3 h3
        exact ⟨(p, q), fun _ => ⟨by simpa using hp, by simpa using hq⟩⟩
      · exact ⟨(0, 0), fun h => absurd h hi⟩
    obtain ⟨z, hz⟩ := Classical.axiomOfChoice hz
    have hlen : ((List.range len).map z).length = len := by simp
    refine ⟨(List.range len).map z, some a, m, by rw [hlen], by rw [hlen]; exact hl, hm, by decide, fun k hk => ?_⟩
    rw [hlen] at hk
    obtain ⟨h0, h1, _⟩ := hx k (by omega)
    have hs := World.cell?_spot (hx 0 (by omega)).1
    obtain ⟨b, off, sp⟩ := a
    obtain rfl : sp = none := by simpa [Addr.add] using hs
    obtain ⟨e0, e1⟩ := hz k (by omega)
    refine ⟨[.int .i64 (z k).1, .int .i64 (z k).2], b, off, by simp [RV], rfl, by simp [Value.oneCell'], rfl, trivial, fun j c hc => ?_⟩
    rw [Addr.add_lit] at h0 h1
    match j, hc with
    | 0, hc => cases hc; rw [Nat.add_zero, ← e0]; exact h0
    | 1, hc => cases hc; rw [← e1, Nat.add_assoc]; exact h1
theorem open_S {w : World} {fuel : Nat} {v : Value} {x : DataW H × List MemPlace} (h : DataW.trod enc Tryz.prog w 0 (fun _ => true) true fuel 22 [v] = some x) :
    ∃ xs, Simps anyB w v xs := by
  rcases Deep.open_slice1 Tryz.underlying22 cellsS h with ⟨hc, _⟩ | ⟨a, len, cap, m, n, V, D, Pl, hc, _, hl, hm, hmm, _, hx⟩
  · obtain rfl : v = .slice none 0 0 := by simpa using hc
    exact ⟨[], Arr.nil'⟩
  · obtain rfl : v = .slice (some a) len cap := by simpa using hc
    simp only [if_true] at hmm
    subst hmm
    have hz : ∀ i, ∃ xs : List (Int × Int), i < m → Verts anyB w (V i) xs := fun i => by
      by_cases hi : i < m
      · obtain ⟨xs, h1⟩ := open_V (hx i hi).2
        exact ⟨xs, fun _ => h1⟩
      · exact ⟨[], fun h => absurd h hi⟩
    obtain ⟨z, hz⟩ := Classical.axiomOfChoice hz
    have hlen : ((List.range len).map z).length = len := by simp
    refine ⟨(List.range len).map z, some a, m, by rw [hlen], by rw [hlen]; exact hl, hm, fun k hk => ?_⟩
    rw [hlen] at hk
    obtain ⟨h0, _⟩ := hx k (by omega)
    have hs := World.cell?_spot (hx 0 (by omega)).1
    obtain ⟨b, off, sp⟩ := a
    obtain rfl : sp = none := by simpa [Addr.add] using hs
    have hv := hz k (by omega)
    refine ⟨V k, b, off, by simpa using hv, ?_, rfl, trivial, by rw [Addr.add_lit] at h0; exact h0⟩
    obtain ⟨a', c', hv', _⟩ := hv
    rw [hv']; rfl
end

section
variable {H : Type} {enc : TypeId × Value → H}

theorem args_kept {W W' : World} (hE : Ext W W') : ∀ {ts : List TypeId} {vs : List Value} {ds : List (DataW H)} {ps : List MemPlace}, (∀ t ∈ ts, Tryz.prog.readableRec t = true ∧ t < Tryz.prog.types.size) → (∀ p ∈ ps, p.block < W.heap.size) →
    DataW.TrodAll enc Tryz.prog W 0 (fun _ => true) true ts vs ds ps → DataW.TrodAll enc Tryz.prog W' 0 (fun b => decide (b < W.heap.size)) true ts vs ds ps
  | [], _, _, _, _, _, h => by
    obtain ⟨rfl, rfl, rfl⟩ := trodAll_nil h
    exact trodAll_mk0
  | t :: ts, _, _, _, ht, hlt, h => by
    obtain ⟨v, vs1, d, ds1, a, b, rfl, rfl, rfl, h1, h2⟩ := trodAll_cons h
    exact trodAll_cons_mk (Below.trod laidOut (ht t (by simp)).1 (ht t (by simp)).2 h1 hE (fun x hx => hlt x (by simp [hx]))) (args_kept hE (fun t' h' => ht t' (by simp [h'])) (fun p hp => hlt p (by simp [hp])) h2)

theorem post_law {f : Func} {s : ChangeSpec} {W W' : World} {args : Array Value} {ds gs : List (DataW H)} {before : List MemPlace} (hW : DataW.Whole enc Tryz.prog f.params.toList s.vars false W args.toList ds gs before) (hvars : s.vars = [])
    (hr : f.resultTypes = #[4]) (hs : s.fn H ds = { results := [.lit (.bool true)], args := ds }) (ht : ∀ t ∈ f.params.toList, Tryz.prog.readableRec t = true ∧ t < Tryz.prog.types.size) (hE : Ext W W') :
    s.post enc Tryz.prog f false true false false W args (.bool true) W' := by
  have hlt := hW.lt
  have hW' := hW
  obtain ⟨p, q, hA, hV, rfl, hfz, hnd⟩ := hW
  rw [hvars] at hV
  obtain ⟨rfl, rfl⟩ := trodVars_none hV
  refine ⟨ds, [], p ++ [], [], p, [], hW', ?_, ?_, ?_, hE.frame _, fun h => by cases h⟩
  · rw [hr, List.append_nil, hs]
    exact trodAll_mk1 (shut_bool Tryz.underlying4 true)
  · rw [List.append_nil, hs]
    exact args_kept hE ht (fun x hx => hlt x (by simp [hx])) hA
  · rw [hvars, List.append_nil, hs]
    rfl
theorem fn_law {f : FuncId} {ds : List Dat} (hF : Fn Tryz.prog f ds (dB true)) {W : World} {vs : List Value} (hl : vs.length = ds.length) (h : ∀ (i : Nat) (d : Dat), ds[i]? = some d → d.rd anyB W (vs.getD i undef)) :
    Calls Tryz.prog f vs.toArray W fun e W' => e = .returned (.bool true) ∧ Ext W W' :=
  (hF.out anyB W vs hl h).mono fun _ _ ⟨_, h1, h2, h3⟩ => by cases (h3 : _ = _); exact ⟨h1, h2⟩
end
end Go.Proofs.YtmlikmldfdgmcaaGreat
namespace Go.Proofs.YtmlikmldfdgmcaaGreat
open Go.ChangeShapes Go.WideShapes Go.ChangeAt Go.RowKit
set_option maxRecDepth 100000
section
variable {H : Type} {enc : TypeId × Value → H}
theorem cellsC : Tryz.prog.cellsOf 24 = 1 := by kernel_rfl
theorem cellsSS : Tryz.prog.cellsOf 22 = 1 := by kernel_rfl
theorem open_C' {w : World} {r : Reach} {b0 : Nat} {v : Value} {d : DataW H} {ps : List MemPlace} (hv : Value.okWide Tryz.prog w r b0 24 v) (h : DataW.Trod enc Tryz.prog w 0 (fun _ => true) true 24 v d ps) : ∃ xs, (dS Cpx xs).rd anyB w v := by
  obtain ⟨fuel, h⟩ := h
  obtain ⟨cs, rfl, hcs⟩ := okWide_struct Tryz.underlying24 hv
  rw [cellsC] at hcs
  obtain ⟨u, rfl⟩ := Array.size_eq_one_iff.1 hcs
  obtain ⟨y0, n, hy, hl, h0⟩ := trod_struct1 Tryz.underlying24 h
  have h0' : DataW.trod enc Tryz.prog w 0 (fun _ => true) true n 22 [u] = some y0 := by
    have e : Tryz.prog.cellsOf 22 = 1 := cellsSS
    simpa [Value.cells, e] using h0
  obtain ⟨xs, hx⟩ := open_S h0'
  refine ⟨xs, u, rfl, ?_, hx⟩
  obtain ⟨a, c, hu, _⟩ := hx
  rw [hu]; rfl
end
end Go.Proofs.YtmlikmldfdgmcaaGreat
namespace Go.Proofs.YtmlikmldfdgmcaaGreat
open Go.ChangeShapes Go.WideShapes Go.ChangeAt Go.RowKit
set_option maxRecDepth 100000
section
variable {H : Type} {enc : TypeId × Value → H}
theorem cellsY8 : Tryz.prog.cellsOf 5 = 1 := by kernel_rfl
theorem open_Y {w : World} {fuel : Nat} {v : Value} {x : DataW H × List MemPlace} (h : DataW.trod enc Tryz.prog w 0 (fun _ => true) true fuel 25 [v] = some x) :
    ∃ xs, Byts anyB w v xs := by
  rcases Deep.open_slice1 Tryz.underlying25 cellsY8 h with ⟨hc, _⟩ | ⟨a, len, cap, m, n, V, D, Pl, hc, _, hl, hm, hmm, _, hx⟩
  · obtain rfl : v = .slice none 0 0 := by simpa using hc
    exact ⟨[], Arr.nil'⟩
  · obtain rfl : v = .slice (some a) len cap := by simpa using hc
    simp only [if_true] at hmm
    subst hmm
    have hz : ∀ i, ∃ c : Int, i < m → V i = .int .u8 c ∧ 0 ≤ c ∧ c ≤ 255 := fun i => by
      by_cases hi : i < m
      · obtain ⟨c, ec, _, wc⟩ := DataW.trod_int Tryz.underlying5 (hx i hi).2
        exact ⟨c, fun _ => ⟨by simpa using ec, by simpa [Lit.wf, IntKind.min, IntKind.max, IntKind.signed, IntKind.bits] using wc⟩⟩
      · exact ⟨0, fun h => absurd h hi⟩
    obtain ⟨z, hz⟩ := Classical.axiomOfChoice hz
    have hlen : ((List.range len).map z).length = len := by simp
    refine ⟨(List.range len).map z, some a, m, by rw [hlen], by rw [hlen]; exact hl, hm, fun k hk => ?_⟩
    rw [hlen] at hk
    obtain ⟨h0, _⟩ := hx k (by omega)
    have hs := World.cell?_spot (hx 0 (by omega)).1
    obtain ⟨b, off, sp⟩ := a
    obtain rfl : sp = none := by simpa [Addr.add] using hs
    obtain ⟨hv, hr⟩ := hz k (by omega)
    refine ⟨V k, b, off, ⟨by simpa using hv, by simpa using hr⟩, by rw [hv]; rfl, rfl, trivial, by rw [Addr.add_lit] at h0; exact h0⟩
theorem open_Y' {w : World} {r : Reach} {b0 : Nat} {v : Value} {d : DataW H} {ps : List MemPlace} (hv : Value.okWide Tryz.prog w r b0 25 v) (h : DataW.Trod enc Tryz.prog w 0 (fun _ => true) true 25 v d ps) : ∃ xs, (dS Byts xs).rd anyB w v := by
  obtain ⟨fuel, h⟩ := h
  obtain ⟨a, len, cap, rfl⟩ := okWide_slice Tryz.underlying25 hv
  exact open_Y h
end
end Go.Proofs.YtmlikmldfdgmcaaGreat
