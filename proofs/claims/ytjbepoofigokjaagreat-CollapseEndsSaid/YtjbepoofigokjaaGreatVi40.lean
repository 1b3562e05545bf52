/-
  Part 40 of the texts that the claims of this seat lean on: walks of the program's functions by contracts over symbolic frames, and plain laws of what they compute. No condition.
-/
import Derived.Test.YtjbepoofigokjaaGreatVi12
import Derived.Test.YtjbepoofigokjaaGreatVi27
import Derived.Test.YtjbepoofigokjaaGreatVi39
set_option linter.unusedVariables false
set_option linter.unusedSimpArgs false
set_option linter.unusedSectionVars false
namespace Go.Proofs.YtjbepoofigokjaaGreat
open Go.RowKit
set_option linter.unusedSimpArgs false

set_option maxHeartbeats 2000000
set_option maxRecDepth 100000
section
variable {P : Program}
def fin4 (t u v x : Nat) (r s q p : Dat) : Post := fun e fr hp => (match e with | .normal | .ret => True | _ => False) ∧ (∃ d, fr[t]? = some d ∧ FinD hp d r) ∧ (∃ d, fr[u]? = some d ∧ FinD hp d s) ∧ (∃ d, fr[v]? = some d ∧ FinD hp d q) ∧ ∃ d, fr[x]? = some d ∧ FinD hp d p
theorem results_tmp4' {fn : Func} {t u v x : Tmp} (h : fn.results = #[.tmp t, .tmp u, .tmp v, .tmp x]) (tmps : Array Value) (w : World) : (results fn tmps).run P w = .ok (.tuple #[tmps.getD t undef, tmps.getD u undef, tmps.getD v undef, tmps.getD x undef]) w := by
  simp [results, h]
theorem Fn.intro4 {f : FuncId} {fn : Func} {c : Code} {args : List Dat} {r s q p : Dat} {t u v x : Tmp} (hf : P.funcs[f]? = some fn) (hb : fn.body = some c) (hr : fn.results = #[.tmp t, .tmp u, .tmp v, .tmp x])
    (h : WC P (fin4 t u v x r s q p) c (args ++ List.replicate (fn.ntmps - args.length) (dX undef)) []) : Fn P f args (dT [r, s, q, p]) :=
  Fn.intro hf hb (fun e fr hp k => by
    obtain ⟨he, ⟨d, hd, hfin⟩, ⟨d', hd', hfin'⟩, ⟨d2, hd2, hfin2⟩, d3, hd3, hfin3⟩ := k
    refine ⟨by cases e <;> simp_all, fun {P0 B w0 w a} hh hf' => ⟨_, results_tmp4' hr _ _, [a.tmps.getD t undef, a.tmps.getD u undef, a.tmps.getD v undef, a.tmps.getD x undef], rfl, rfl, fun i e y he hx => ?_⟩⟩
    match i, he, hx with
    | 0, he, hx => cases he; cases hx; exact hfin.out hh (hf'.rd t d hd)
    | 1, he, hx => cases he; cases hx; exact hfin'.out hh (hf'.rd u d' hd')
    | 2, he, hx => cases he; cases hx; exact hfin2.out hh (hf'.rd v d2 hd2)
    | 3, he, hx => cases he; cases hx; exact hfin3.out hh (hf'.rd x d3 hd3)) h
end
def goodK (l : Cx) : Bool := few32 l && decide (chkC l = 0)
theorem good32_p (l : Cx) : Fn Tryz.prog 29 [dS Cpx l] (dB (goodK l)) := by
  (refine Fn.intro1 Tryz.func29 rfl rfl ?_; simp only [Tryz.ntmps29, List.length_cons, List.length_nil, Nat.reduceAdd, Nat.reduceSub, List.replicate_succ, List.replicate_zero, List.cons_append, List.nil_append])
  have c0 := few32_c l
  have c1 := chk27_c l
  unfold goodK
  generalize few32 l = F at *
  cases F with
  | false =>
    ((repeat' (first | (apply WL.opN; exact yF; dsimp only [setD, z0, z1]) | refine WL.nil ?_ | refine WC.seqK fun Kx hK => ?_ | (refine hK _ _ ?_; clear hK) | refine WC.region ?_ | (apply WL.opG; (focus (first | exact wN | (apply SYG.yes; (exact wY); ((first | (apply SY.call (c0) Tryz.call11; (exact aD)) | (apply SY.call (c1) Tryz.call44; (exact aD)) | (apply SY.pickF; (exact oD); (with_reducible rfl); (exact oD)) | (apply SY.box; (exact oD); (exact hD)) | fail); all_goals infer_instance)))); dsimp only [setD, z0, z1]) | refine WC.ret ?_)); all_goals (first | ((repeat clear hK); (repeat clear Kx))))
    all_goals first | (exfalso; omega) | (refine ⟨trivial, _, rfl, ?_⟩; exact fD)
  | true =>
    ((repeat' (first | (apply WL.opN; exact yF; dsimp only [setD, z0, z1]) | refine WL.nil ?_ | refine WC.seqK fun Kx hK => ?_ | (refine hK _ _ ?_; clear hK) | refine WC.region ?_ | (apply WL.opG; (focus (first | exact wN | (apply SYG.yes; (exact wY); ((first | (apply SY.call (c0) Tryz.call11; (exact aD)) | (apply SY.call (c1) Tryz.call44; (exact aD)) | ((first | apply SY.move | apply SY.assign | apply SY.eql) <;> (exact oD)) | (apply SY.load; (exact tD); (exact oD)) | (apply SY.pickT; (exact oD); (with_reducible rfl); (exact oD)) | (apply SY.box; (exact oD); (exact hD)) | fail); all_goals infer_instance)))); dsimp only [setD, z0, z1]) | refine WC.ret ?_)); all_goals (first | ((repeat clear hK); (repeat clear Kx))))
    all_goals first | (exfalso; omega) | ((refine ⟨trivial, _, rfl, ?_⟩; exact fD); try rfl)
theorem posG_at {V : Type} [DecidableEq V] : ∀ {D : List V} (_ : D.Nodup) (i : Nat) (h : i < D.length), posG D D[i] = i
  | y :: D, hn, 0, _ => posG_self
  | y :: D, hn, i + 1, h => by
    rw [List.nodup_cons] at hn
    have hi : i < D.length := by simpa using h
    show posG (y :: D) D[i] = i + 1
    rw [posG_ne fun e => hn.1 (by rw [e]; exact List.getElem_mem hi), posG_at hn.2 i hi]
def topN (L : List Int) (a : Int) : Int := L.foldl (fun m c => max m (c + 1)) a
theorem topN_le : ∀ (L : List Int) (a B : Int), (∀ c ∈ L, c + 1 ≤ B) → a ≤ B → topN L a ≤ B
  | [], a, B, _, h => h
  | c :: L, a, B, hc, h => topN_le L _ B (fun d hd => hc d (List.mem_cons_of_mem _ hd)) (by have := hc c (List.mem_cons_self ..); show max a (c + 1) ≤ B; omega)
theorem topN_ge : ∀ (L : List Int) (a : Int), a ≤ topN L a ∧ ∀ c ∈ L, c + 1 ≤ topN L a
  | [], a => ⟨Int.le_refl _, fun c h => by cases h⟩
  | c :: L, a => by
    obtain ⟨h1, h2⟩ := topN_ge L (max a (c + 1))
    refine ⟨by show a ≤ topN L (max a (c + 1)); omega, fun d hd => ?_⟩
    show d + 1 ≤ topN L (max a (c + 1))
    rcases List.mem_cons.1 hd with rfl | hd
    · omega
    · exact h2 d hd
theorem top_parts (l : Cx) : topN (compC l) 0 = (partsN l : Int) := by
  have h1 : ∀ c ∈ compC l, c + 1 ≤ (partsN l : Int) := fun c hc => by
    obtain ⟨s, hs, rfl⟩ := List.mem_map.1 hc
    have := num_lt hs
    omega
  refine Int.le_antisymm (topN_le _ _ _ h1 (by omega)) ?_
  obtain ⟨g1, g2⟩ := topN_ge (compC l) 0
  by_cases h0 : partsN l = 0
  · omega
  · have hi : partsN l - 1 < (distG (rootsC l)).length := by
      show partsN l - 1 < partsN l
      omega
    have hr := ((dist_inv (rootsC l)).2 _).1 (List.getElem_mem hi)
    obtain ⟨s, hs, he⟩ := List.mem_map.1 hr
    have hn : numC l s = partsN l - 1 := by
      unfold numC
      rw [he]
      exact posG_at (dist_inv (rootsC l)).1 _ hi
    have := g2 (numC l s : Int) (List.mem_map_of_mem (f := fun s => (numC l s : Int)) hs)
    omega
theorem comp_bnd (l : Cx) : ∀ c ∈ compC l, 0 ≤ c ∧ c < (l.length : Int) := fun c hc => by
  obtain ⟨s, hs, rfl⟩ := List.mem_map.1 hc
  have h1 := num_lt hs
  have h2 : partsN l ≤ l.length := by
    have := dist_len (rootsC l)
    unfold rootsC at this
    rw [List.length_map] at this
    exact this
  omega
def sizesN (l : Cx) : List Int := (List.range 8).map fun k => ((allC l (k + 1)).length : Int)
set_option maxHeartbeats 8000000 in
theorem count32_p (l : Cx) (G : GoodX l) (hw : wholeN l 8 ≤ 4096) : Fn Tryz.prog 34 [dS Cpx l] (dT [dS Ints (sizesN l), dI (eulS l 8), dI (partsN l : Int), dB true]) := by
  refine Fn.intro4 Tryz.func34 rfl rfl ?_
  simp only [Tryz.ntmps34, List.length_cons, List.length_nil, Nat.reduceAdd, Nat.reduceSub, List.replicate_succ, List.replicate_zero, List.cons_append, List.nil_append]
  have h0 := goodX_iff.2 G
  have c2 := euler27_p l
  rw [eul_whole G hw] at c2
  have c3 := components27_p l
  rw [show compP l = (compC l, 0) from if_neg (by omega)] at c3
  have hcl : (compC l).length = l.length := List.length_map ..
  have hll := G.1
  have hcb := comp_bnd l
  have htp := top_parts l
  (repeat' (first | (apply WL.opN; exact yF; dsimp only [setD, z0, z1]) | refine WL.nil ?_ | refine WC.seqK fun Kx hK => ?_ | (refine hK _ _ ?_; clear hK) | refine WC.region ?_ | (apply WL.opG; (focus (first | exact wN | (apply SYG.yes; (exact wY); ((first | (apply SY.box; (exact oD); (exact hD)) | fail); all_goals infer_instance)))); dsimp only [setD, z0, z1]) | refine WC.block ?_))
  refine WC.nilRow 3 RI ?_
  (refine WC.loopU (X := Nat × Value × List Int) (fun x => [(14, dI (x.1 : Int)), (2, dX x.2.1), (4, dI 0), (3, dA), (5, dA), (6, dA), (7, dA), (8, dA), (15, dA), (16, dA), (17, dA), (18, dA), (19, dA), (20, dA), (21, dA), (22, dA), (23, dA), (24, dA), (25, dA), (26, dA), (27, dA), (28, dA), (29, dA), (30, dA), (31, dA)]) (fun x => [hRow x.2.1 3 RI x.2.2]) (fun x => 8 - x.1) (fun x => x.1 ≤ 8 ∧ x.2.2 = ((List.range x.1).map fun k => ((allC l (k + 1)).length : Int))) (0, .slice none 0 0, []) ?start ?frame0 ?objs0 ?round)
  case start => exact ⟨Nat.zero_le _, rfl⟩
  case frame0 => ((try dsimp only [upds, z0, z1]); repeat (first | exact LeF.nil | refine LeF.co (k := ?_)))
  case objs0 => rfl
  case round =>
    rintro ⟨k, v, o⟩ ⟨q1, q2⟩
    simp only at q1 q2
    have hol : o.length ≤ 8 := by rw [q2, List.length_map, List.length_range]; exact q1
    dsimp only [upds, z0, z1]
    by_cases hk : k < 8
    · have hm := whole_mono l hk
      have c1 := simplices27_p l ((k + 1 : Nat) : Int)
      have et : (((k + 1 : Nat) : Int)).toNat = k + 1 := by omega
      have es : simplC l ((k + 1 : Nat) : Int) = (allC l (k + 1), 0) := by unfold simplC; rw [if_neg (by omega), if_neg (by omega), et, if_neg (by omega)]
      rw [es] at c1
      have e2 : (List.range (k + 1)).map (fun k => ((allC l (k + 1)).length : Int)) = o ++ [((allC l (k + 1)).length : Int)] := by rw [List.range_succ, List.map_append, ← q2]; rfl
      generalize allC l (k + 1) = A at *
      ((repeat' (first | (apply WL.opN; exact yF; dsimp only [setD, z0, z1]) | refine WL.nil ?_ | refine WC.seqK fun Kx hK => ?_ | (refine hK _ _ ?_; clear hK) | refine WC.region ?_ | ((first | apply WL.pushK | apply WL.push1); (exact eD); exact OpD.t rfl; (exact oD); (intro _; exact hD); (exact (by simp)); (exact (by simp)); (first | exact ⟨by decide, by decide⟩ | skip); decide; (exact lD); (intro _; dsimp only [setD, z0, z1]); all_goals (try infer_instance)) | (apply WL.opG; (focus (first | exact wN | (apply SYG.yes; (exact wY); ((first | (apply SY.call (c1) Tryz.call40; (exact aD)) | ((first | apply SY.move | apply SY.assign | apply SY.lss | apply SY.eql | apply SY.neq) <;> (exact oD)) | ((first | apply SY.add) <;> first | exact oD | omega) | (apply SY.len; (exact oD); (exact nD); (exact uD)) | (apply SY.extract; (exact oD); rfl) | fail); all_goals infer_instance)))); dsimp only [setD, z0, z1]) | (apply WC.condD; (exact oD); all_goals (intro h; try exact xD)) | (apply WC.condN; (exact oD); all_goals (intro h; try exact xD)) | refine WC.skip ?_ | refine WC.block ?_ | refine ThenD.n ?_)); all_goals (first | ((repeat clear hK); (repeat clear Kx))))
      all_goals first | (exfalso; omega) | skip
      rename_i v'
      (refine ⟨(k + 1, v', o ++ [(A.length : Int)]), ?_, by first | omega | (simp only; omega), rfl, ?_⟩; rotate_left; ((try dsimp only [upds, z0, z1]); repeat (first | exact LeF.nil | refine LeF.co (k := ?_))); (try dsimp only))
      exact ⟨by show k + 1 ≤ 8; omega, e2.symm⟩
    · obtain rfl : k = 8 := by omega
      have q3 : o = sizesN l := q2
      subst q3
      generalize sizesN l = SZ at *
      generalize eulS l 8 = EU at *
      generalize compC l = CN at *
      generalize (partsN l : Int) = PN at *
      (repeat' (first | (apply WL.opN; exact yF; dsimp only [setD, z0, z1]) | refine WL.nil ?_ | refine WC.seqK fun Kx hK => ?_ | (refine hK _ _ ?_; clear hK) | (refine Kont.skip ?_; clear hK) | refine WC.region ?_ | (apply WL.opG; (focus (first | exact wN | (apply SYG.yes; (exact wY); ((first | (apply SY.call (c2) Tryz.call58; (exact aD)) | (apply SY.call (c3) Tryz.call57; (exact aD)) | ((first | apply SY.move | apply SY.assign | apply SY.lss | apply SY.eql | apply SY.neq) <;> (exact oD)) | (apply SY.len; (exact oD); (exact nD); (exact uD)) | (apply SY.extract; (exact oD); rfl) | fail); all_goals infer_instance)))); dsimp only [setD, z0, z1]) | (apply WC.condD; (exact oD); all_goals (intro h; try exact xD)) | refine WC.exit ?_ | refine WC.block ?_))
      all_goals first | (exfalso; omega) | skip
      refine WC.keep1 (s := 2) rfl ?_
      dsimp only [z0, z1]
      (refine WC.loopU (X := Nat × Int) (fun x => [(44, dI (x.1 : Int)), (4, dI x.2), (13, dA), (45, dA), (46, dA), (47, dA), (48, dA), (49, dA), (50, dA), (51, dA), (52, dA)]) (fun x => []) (fun x => CN.length - x.1) (fun x => x.1 ≤ CN.length ∧ 0 ≤ x.2 ∧ x.2 ≤ 5000 ∧ PN = topN (CN.drop x.1) x.2) (0, 0) ?start ?frame0 ?objs0 ?round)
      case start => exact ⟨Nat.zero_le _, Int.le_refl _, by decide, htp.symm⟩
      case frame0 => ((try dsimp only [upds, z0, z1]); repeat (first | exact LeF.nil | refine LeF.co (k := ?_)))
      case objs0 => rfl
      case round =>
        rintro ⟨j, n⟩ ⟨r1, r2, r3, r4⟩
        simp only at r1 r2 r3 r4
        dsimp only [upds, z0, z1]
        by_cases hj : j < CN.length
        · obtain ⟨b1, b2⟩ := hcb _ (List.getElem_mem hj)
          rw [List.drop_eq_getElem_cons hj] at r4
          ((repeat' (first | (apply WL.opN; exact yF; dsimp only [setD, z0, z1]) | refine WL.nil ?_ | refine WC.seqK fun Kx hK => ?_ | (refine hK _ _ ?_; clear hK) | refine WC.region ?_ | (apply WL.opG; (focus (first | exact wN | (apply SYG.yes; (exact wY); ((first | (apply SY.maxI; exact OpD.t rfl; exact OpD.t rfl) | ((first | apply SY.move | apply SY.assign | apply SY.lss | apply SY.eql | apply SY.neq) <;> (exact oD)) | ((first | apply SY.add) <;> first | exact oD | omega) | (apply SY.ix; (exact eD); (exact oD); (exact oD); exact kD) | fail); all_goals infer_instance)))); dsimp only [setD, z0, z1]) | (apply WC.condD; (exact oD); all_goals (intro h; try exact xD)) | refine WC.skip ?_ | refine WC.block ?_ | refine ThenD.n ?_)); all_goals (first | ((repeat clear hK); (repeat clear Kx))))
          all_goals first | (exfalso; omega) | skip
          (refine ⟨(j + 1, max n (CN[j] + 1)), ?_, by first | omega | (simp only; omega), rfl, ?_⟩; rotate_left; ((try dsimp only [upds, z0, z1]); repeat (first | exact LeF.nil | refine LeF.co (k := ?_))); (try dsimp only))
          exact ⟨by show j + 1 ≤ _; omega, by show 0 ≤ max n _; omega, by show max n _ ≤ 5000; omega, r4⟩
        · rw [List.drop_eq_nil_of_le (by omega)] at r4
          have r5 : PN = n := r4
          subst r5
          ((repeat' (first | (apply WL.opN; exact yF; dsimp only [setD, z0, z1]) | refine WL.nil ?_ | refine WC.seqK fun Kx hK => ?_ | (refine hK _ _ ?_; clear hK) | (refine Kont.skip ?_; clear hK) | refine WC.region ?_ | (apply WL.opG; (focus (first | exact wN | (apply SYG.yes; (exact wY); ((first | ((first | apply SY.move | apply SY.assign | apply SY.lss | apply SY.eql | apply SY.neq) <;> (exact oD)) | (apply SY.pickT; (exact oD); (with_reducible rfl); (exact oD)) | fail); all_goals infer_instance)))); dsimp only [setD, z0, z1]) | ((first | refine WL.caseP rfl rfl rfl (fun h => ?_) (fun h => ?_) | refine WL.caseN rfl rfl rfl (fun h => ?_) (fun h => ?_) | refine WL.caseB rfl rfl rfl (fun h => ?_) (fun h => ?_)) <;> (first | (exfalso; first | omega | contradiction) | (dsimp only [z0, z1]))) | (apply WC.condD; (exact oD); all_goals (intro h; try exact xD)) | refine WC.ret ?_ | refine WC.exit ?_)); all_goals (first | ((repeat clear hK); (repeat clear Kx))))
          all_goals first | (exfalso; omega) | skip
          exact ⟨trivial, ⟨_, rfl, FinD.le (Dat.le_refl _)⟩, ⟨_, rfl, FinD.le (Dat.le_refl _)⟩, ⟨_, rfl, FinD.le (Dat.le_refl _)⟩, _, rfl, FinD.le (Dat.le_refl _)⟩
end Go.Proofs.YtjbepoofigokjaaGreat
namespace Go.Proofs.YtjbepoofigokjaaGreat
open Go.RowKit
set_option linter.unusedSimpArgs false

set_option maxHeartbeats 2000000
set_option maxRecDepth 100000
theorem goodK_of {l : Cx} (h : goodK l = true) : GoodX l ∧ wholeN l 8 ≤ 260 ∧ few32 l = true := by
  unfold goodK at h
  rw [Bool.and_eq_true, decide_eq_true_eq] at h
  exact ⟨goodX_iff.1 h.2, few_sizes h.1 h.2, h.1⟩
theorem sizes_at (l : Cx) {k : Nat} (hk : k < (sizesN l).length) : (sizesN l)[k] = ((allC l (k + 1)).length : Int) := by
  simp [sizesN]
theorem sizes_len (l : Cx) : (sizesN l).length = 8 := by simp [sizesN]
set_option maxHeartbeats 32000000 in
theorem keeps32_p (l : Cx) (w : Int) (hw : 0 ≤ w ∧ w ≤ 255) : Fn Tryz.prog 9 [dS Cpx l, dX (.int .u8 w)] (dB true) := by
  (refine Fn.intro1 Tryz.func9 rfl rfl ?_; simp only [Tryz.ntmps9, List.length_cons, List.length_nil, Nat.reduceAdd, Nat.reduceSub, List.replicate_succ, List.replicate_zero, List.cons_append, List.nil_append])
  have c0 := good32_p l
  cases hg : goodK l with
  | false =>
    rw [hg] at c0
    ((repeat' (first | ((first | apply WL.opN | apply WD.opN); exact yF; dsimp only [setD, z0, z1]) | refine WL.nil ?_ | refine WC.seqK fun Kx hK => ?_ | (refine hK _ _ ?_; clear hK) | refine WC.region ?_ | ((first | apply WL.opG | apply WD.op); (focus (first | exact wN | (apply SYG.yes; (exact wY); ((first | (apply SY.call (c0) Tryz.call29; (exact aD)) | (apply SY.call (awake32_p) Tryz.call12; (exact aD)) | ((first | apply SY.move | apply SY.assign | apply SY.lss | apply SY.eql | apply SY.neq | apply SY.not) <;> (exact oD)) | (apply SY.box; (exact oD); (exact hD)) | fail); all_goals infer_instance)))); dsimp only [setD, z0, z1]) | (apply WC.condNB; (exact oD); all_goals (intro h; try exact xD)) | refine WC.ret ?_ | refine ThenD.r ?_)); all_goals (first | ((repeat clear hK); (repeat clear Kx))))
    all_goals first | (exfalso; omega) | (refine ⟨trivial, _, rfl, ?_⟩; exact fD)
  | true =>
    rw [hg] at c0
    obtain ⟨G, hwh, hf⟩ := goodK_of hg
    have c1 := free32_p l
    rw [show freeK l = (pairsC l, 0) from if_neg (by rw [goodX_iff.2 G]; omega)] at c1
    by_cases hp0 : (pairsC l).length = 0
    · generalize pairsC l = L at *
      ((repeat' (first | ((first | apply WL.opN | apply WD.opN); exact yF; dsimp only [setD, z0, z1]) | refine WL.nil ?_ | refine WC.seqK fun Kx hK => ?_ | (refine hK _ _ ?_; clear hK) | refine WC.region ?_ | ((first | apply WL.opG | apply WD.op); (focus (first | exact wN | (apply SYG.yes; (exact wY); ((first | (apply SY.call (c0) Tryz.call29; (exact aD)) | (apply SY.call (c1) Tryz.call13; (exact aD)) | (apply SY.call (awake32_p) Tryz.call12; (exact aD)) | ((first | apply SY.move | apply SY.assign | apply SY.lss | apply SY.eql | apply SY.neq | apply SY.not) <;> (exact oD)) | (apply SY.len; (exact oD); (exact nD); (exact uD)) | (apply SY.extract; (exact oD); rfl) | (apply SY.box; (exact oD); (exact hD)) | fail); all_goals infer_instance)))); dsimp only [setD, z0, z1]) | (apply WC.condD; (exact oD); all_goals (intro h; try exact xD)) | (apply WC.condN; (exact oD); all_goals (intro h; try exact xD)) | (apply WC.condNB; (exact oD); all_goals (intro h; try exact xD)) | refine WC.skip ?_ | refine WC.ret ?_ | refine ThenD.r ?_)); all_goals (first | ((repeat clear hK); (repeat clear Kx))))
      all_goals first | (exfalso; omega) | (refine ⟨trivial, _, rfl, ?_⟩; exact fD)
    · have hpos : 0 < (pairsC l).length := by omega
      obtain ⟨q, hq, hqn⟩ := rem_ok hw.1 hpos
      have hx := List.getElem_mem hqn
      have hok := pair_ok G hx
      have c2 := step32_p l (pairsC l)[q] fun _ => by omega
      rw [step_in G hx (by omega)] at c2
      have G2 := left_good G hok (by omega)
      have hw2 := left_two G hok
      have c3 := count32_p l G (by omega)
      have c4 := count32_p (leftC l (pairsC l)[q]) G2 (by omega)
      rw [left_eul8 G hok, left_parts G hok] at c4
      have c5 := check_p (leftC l (pairsC l)[q])
      rw [goodX_iff.2 G2] at c5
      have a1 := (chkV_zero.1 hok.chk1).2.2.2
      have a2 := (chkV_zero.1 hok.chk2).2.2.2
      have hh := fun t ht => left_has G hok (t := t) ht
      have c6 := contains27_p (leftC l (pairsC l)[q]) (pairsC l)[q].1
      rw [cont_is G2 hok.chk1, show hasC' (leftC l (pairsC l)[q]) (pairsC l)[q].1 = false from Bool.eq_false_iff.2 fun h => ((hh _ a1).1 h).2.1 rfl] at c6
      have c7 := contains27_p (leftC l (pairsC l)[q]) (pairsC l)[q].2
      rw [cont_is G2 hok.chk2, show hasC' (leftC l (pairsC l)[q]) (pairsC l)[q].2 = false from Bool.eq_false_iff.2 fun h => ((hh _ a2).1 h).2.2 rfl] at c7
      have c8 := step32_p (leftC l (pairsC l)[q]) (pairsC l)[q] fun _ => by omega
      have hs6 : (stepK (leftC l (pairsC l)[q]) (pairsC l)[q]).2 = 6 := by
        unfold stepK
        rw [if_neg (by rw [goodX_iff.2 G2]; omega), if_neg (by rw [hok.chk1]; omega), if_neg (by rw [hok.chk2]; omega), if_pos (left_again G hok)]
      rw [hs6] at c8
      have hln := hok.len
      have p1 := chk_len hok.chk1
      have p2 := chk_len hok.chk2
      have hll := fun k => left_len G hok k
      have za : ∀ k (h : k < (sizesN l).length), (sizesN l)[k] = ((allC l (k + 1)).length : Int) := fun k h => sizes_at l h
      have zb : ∀ k (h : k < (sizesN (leftC l (pairsC l)[q])).length), (sizesN (leftC l (pairsC l)[q]))[k] = ((allC (leftC l (pairsC l)[q]) (k + 1)).length : Int) := fun k h => sizes_at _ h
      have la := sizes_len l
      have lb := sizes_len (leftC l (pairsC l)[q])
      have hwm := fun k (h : k < 8) => whole_mono l h
      clear hh hs6 hok hx G2
      generalize (stepK (leftC l (pairsC l)[q]) (pairsC l)[q]).1 = S1 at *
      generalize sizesN (leftC l (pairsC l)[q]) = SB at *
      generalize sizesN l = SA at *
      generalize eulS l 8 = EU at *
      generalize (partsN l : Int) = PN at *
      have hfk : (pairsC l)[q] = (pairsC l)[q] := rfl
      generalize leftC l (pairsC l)[q] = D at *
      generalize pairsC l = L at *
      (repeat' (first | ((first | apply WL.opN | apply WD.opN); exact yF; dsimp only [setD, z0, z1]) | refine WL.nil ?_ | refine WC.seqK fun Kx hK => ?_ | (refine hK _ _ ?_; clear hK) | refine WC.region ?_ |  (apply WL.alloc tzCo; exact shape_Z2; (intro b7; dsimp only [setD, z0, z1])) |  (refine WL.storeF tyCo rfl (OpD.t rfl) shape_P ?_; dsimp only [setD, z0, z1]) | (apply WL.alloc; (first | exact tzV | exact tzC); (first | exact shape_X rfl | exact shape_XV | exact shape_C0 rfl); (intro _; dsimp only [setD, z0, z1])) | (apply WL.storeF; (exact tD); rfl; (exact oD); (exact hD); dsimp only [setD, z0, z1]) | ((first | apply WL.opG | apply WD.op); (focus (first | exact wN | (apply SYG.yes; (exact wY); ((first | (apply SY.call (c0) Tryz.call29; (exact aD)) | (apply SY.call (c1) Tryz.call13; (exact aD)) | (apply SY.convX; exact OpD.t rfl; exact cvU8 _ hw) | (refine SY.ixKJ (R := Col) (_gR := inferInstance) elCo (OpD.t rfl) (OpD.t rfl) q hq hqn) | (apply SY.call (c2) Tryz.call17; exact ArgsD.cons (OpD.t rfl) (ArgsD.cons (OpD.t rfl) (ArgsD.nil))) | (apply SY.call (c5) Tryz.call35; exact ArgsD.cons (OpD.t rfl) (ArgsD.nil)) | (apply SY.call (c3) Tryz.call34; exact ArgsD.cons (OpD.t rfl) (ArgsD.nil)) | (apply SY.call (c4) Tryz.call34; exact ArgsD.cons (OpD.t rfl) (ArgsD.nil)) | ((first | apply SY.move | apply SY.assign | apply SY.lss | apply SY.eql | apply SY.neq | apply SY.not) <;> (exact oD)) | ((first | apply SY.add | apply SY.sub | apply SY.rem) <;> first | exact oD | omega) | (apply SY.load; (exact tD); (exact oD)) | (apply SY.len; (exact oD); (exact nD); (exact uD)) | (apply SY.fldP0 colT; exact OpD.t rfl) | (apply SY.fldP1 colT; exact OpD.t rfl) | (apply SY.pickF; (exact oD); (with_reducible rfl); (exact oD)) | (apply SY.extract; (exact oD); rfl) | (apply SY.box; (exact oD); (exact hD)) | fail); all_goals infer_instance)))); dsimp only [setD, z0, z1]) | ((first | refine WL.caseP rfl rfl rfl (fun h => ?_) (fun h => ?_) | refine WL.caseN rfl rfl rfl (fun h => ?_) (fun h => ?_) | refine WL.caseB rfl rfl rfl (fun h => ?_) (fun h => ?_) | refine WD.caseP rfl rfl rfl (fun h => ?_) (fun h => ?_) | refine WD.caseN rfl rfl rfl (fun h => ?_) (fun h => ?_) | refine WD.caseB rfl rfl rfl (fun h => ?_) (fun h => ?_)) <;> (first | (exfalso; first | omega | contradiction) | (dsimp only [z0, z1]))) | (apply WC.condD; (exact oD); all_goals (intro h; try exact xD)) | (apply WC.condN; (exact oD); all_goals (intro h; try exact xD)) | (apply WC.condNB; (exact oD); all_goals (intro h; try exact xD)) | refine WC.skip ?_ | refine WC.block ?_))
      all_goals first | (exfalso; omega) | skip
      (refine WC.loopU (X := Nat) (fun k => [(108, dI (k : Int)), (4, dA), (18, dA), (19, dA), (109, dA), (110, dA), (111, dA), (112, dA), (113, dA), (114, dA), (115, dA), (116, dA), (117, dA), (118, dA), (119, dA), (120, dA), (121, dA), (122, dA), (123, dA), (124, dA), (125, dA), (126, dA), (127, dA), (128, dA), (129, dA), (130, dA), (131, dA), (132, dA), (133, dA), (134, dA), (135, dA)]) (fun k => []) (fun k => 8 - k) (fun k => k ≤ 8) 0 ?start ?frame0 ?objs0 ?round)
      case start => exact Nat.zero_le _
      case frame0 => ((try dsimp only [upds, z0, z1]); repeat (first | exact LeF.nil | refine LeF.co (k := ?_)))
      case objs0 => rfl
      case round =>
        intro k r1
        dsimp only [upds, z0, z1]
        by_cases hk : k < 8
        · have hka : k < SA.length := by omega
          have hkb : k < SB.length := by omega
          have za' := za k hka
          have zb' := zb k hkb
          have hl' := hll (k + 1)
          have hm' := hwm k hk
          by_cases e1 : k + 1 = L[q].1.length
          · rw [if_pos e1, if_neg (by omega)] at hl'
            ((repeat' (first | ((first | apply WL.opN | apply WD.opN); exact yF; dsimp only [setD, z0, z1]) | refine WL.nil ?_ | refine WD.nil ?_ | refine WC.seqK fun Kx hK => ?_ | (refine hK _ _ ?_; clear hK) | refine WC.region ?_ | (apply WC.draw; kernel_rfl; kernel_rfl) | ((first | apply WL.opG | apply WD.op); (focus (first | exact wN | (apply SYG.yes; (exact wY); ((first | (refine SY.ixJ (R := RI) (_gR := inferInstance) elI (OpD.t rfl) (OpD.t rfl) k rfl hka) | (refine SY.ixJ (R := RI) (_gR := inferInstance) elI (OpD.t rfl) (OpD.t rfl) k rfl hkb) | ((first | apply SY.move | apply SY.assign | apply SY.lss | apply SY.eql | apply SY.neq | apply SY.not) <;> (exact oD)) | ((first | apply SY.add | apply SY.sub | apply SY.rem) <;> first | exact oD | omega) | (apply SY.len; (exact oD); (exact nD); (exact uD)) | (apply SY.fldP0 colT; exact OpD.t rfl) | (apply SY.fldP1 colT; exact OpD.t rfl) | (apply SY.pickT; (exact oD); (with_reducible rfl); (exact oD)) | fail); all_goals infer_instance)))); dsimp only [setD, z0, z1]) | ((first | refine WL.caseP rfl rfl rfl (fun h => ?_) (fun h => ?_) | refine WL.caseN rfl rfl rfl (fun h => ?_) (fun h => ?_) | refine WL.caseB rfl rfl rfl (fun h => ?_) (fun h => ?_) | refine WD.caseP rfl rfl rfl (fun h => ?_) (fun h => ?_) | refine WD.caseN rfl rfl rfl (fun h => ?_) (fun h => ?_) | refine WD.caseB rfl rfl rfl (fun h => ?_) (fun h => ?_)) <;> (first | (exfalso; first | omega | contradiction) | (dsimp only [z0, z1]))) | (apply WC.condT; (exact oD); (with_reducible rfl)) | (apply WC.condD; (exact oD); all_goals (intro h; try exact xD)) | (apply WC.condN; (exact oD); all_goals (intro h; try exact xD)) | refine WC.skip ?_ | refine WC.block ?_ | refine ThenD.n ?_)); all_goals (first | ((repeat clear hK); (repeat clear Kx))))
            all_goals first | (exfalso; omega) | skip
            (refine ⟨k + 1, ?_, by first | omega | (simp only; omega), rfl, ?_⟩; rotate_left; ((try dsimp only [upds, z0, z1]); repeat (first | exact LeF.nil | refine LeF.co (k := ?_))); (try dsimp only))
            omega
          · by_cases e2 : k = L[q].1.length
            · rw [if_neg e1, if_pos (by omega)] at hl'
              ((repeat' (first | ((first | apply WL.opN | apply WD.opN); exact yF; dsimp only [setD, z0, z1]) | refine WL.nil ?_ | refine WD.nil ?_ | refine WC.seqK fun Kx hK => ?_ | (refine hK _ _ ?_; clear hK) | refine WC.region ?_ | (apply WC.draw; kernel_rfl; kernel_rfl) | ((first | apply WL.opG | apply WD.op); (focus (first | exact wN | (apply SYG.yes; (exact wY); ((first | (refine SY.ixJ (R := RI) (_gR := inferInstance) elI (OpD.t rfl) (OpD.t rfl) k rfl hka) | (refine SY.ixJ (R := RI) (_gR := inferInstance) elI (OpD.t rfl) (OpD.t rfl) k rfl hkb) | ((first | apply SY.move | apply SY.assign | apply SY.lss | apply SY.eql | apply SY.neq | apply SY.not) <;> (exact oD)) | ((first | apply SY.add | apply SY.sub | apply SY.rem) <;> first | exact oD | omega) | (apply SY.load; (exact tD); (exact oD)) | (apply SY.len; (exact oD); (exact nD); (exact uD)) | (apply SY.fldP0 colT; exact OpD.t rfl) | (apply SY.fldP1 colT; exact OpD.t rfl) | (apply SY.pickF; (exact oD); (with_reducible rfl); (exact oD)) | fail); all_goals infer_instance)))); dsimp only [setD, z0, z1]) | ((first | refine WL.caseP rfl rfl rfl (fun h => ?_) (fun h => ?_) | refine WL.caseN rfl rfl rfl (fun h => ?_) (fun h => ?_) | refine WL.caseB rfl rfl rfl (fun h => ?_) (fun h => ?_) | refine WD.caseP rfl rfl rfl (fun h => ?_) (fun h => ?_) | refine WD.caseN rfl rfl rfl (fun h => ?_) (fun h => ?_) | refine WD.caseB rfl rfl rfl (fun h => ?_) (fun h => ?_)) <;> (first | (exfalso; first | omega | contradiction) | (dsimp only [z0, z1]))) | (apply WC.condD; (exact oD); all_goals (intro h; try exact xD)) | (apply WC.condN; (exact oD); all_goals (intro h; try exact xD)) | refine WC.skip ?_ | refine WC.block ?_ | refine ThenD.n ?_)); all_goals (first | ((repeat clear hK); (repeat clear Kx))))
              all_goals first | (exfalso; omega) | skip
              (refine ⟨k + 1, ?_, by first | omega | (simp only; omega), rfl, ?_⟩; rotate_left; ((try dsimp only [upds, z0, z1]); repeat (first | exact LeF.nil | refine LeF.co (k := ?_))); (try dsimp only))
              omega
            · rw [if_neg e1, if_neg (by omega)] at hl'
              ((repeat' (first | ((first | apply WL.opN | apply WD.opN); exact yF; dsimp only [setD, z0, z1]) | refine WL.nil ?_ | refine WD.nil ?_ | refine WC.seqK fun Kx hK => ?_ | (refine hK _ _ ?_; clear hK) | refine WC.region ?_ | (apply WC.draw; kernel_rfl; kernel_rfl) | ((first | apply WL.opG | apply WD.op); (focus (first | exact wN | (apply SYG.yes; (exact wY); ((first | (refine SY.ixJ (R := RI) (_gR := inferInstance) elI (OpD.t rfl) (OpD.t rfl) k rfl hka) | (refine SY.ixJ (R := RI) (_gR := inferInstance) elI (OpD.t rfl) (OpD.t rfl) k rfl hkb) | ((first | apply SY.move | apply SY.assign | apply SY.lss | apply SY.eql | apply SY.neq | apply SY.not) <;> (exact oD)) | ((first | apply SY.add | apply SY.sub | apply SY.rem) <;> first | exact oD | omega) | (apply SY.load; (exact tD); (exact oD)) | (apply SY.len; (exact oD); (exact nD); (exact uD)) | (apply SY.fldP0 colT; exact OpD.t rfl) | (apply SY.fldP1 colT; exact OpD.t rfl) | (apply SY.pickF; (exact oD); (with_reducible rfl); (exact oD)) | fail); all_goals infer_instance)))); dsimp only [setD, z0, z1]) | ((first | refine WL.caseP rfl rfl rfl (fun h => ?_) (fun h => ?_) | refine WL.caseN rfl rfl rfl (fun h => ?_) (fun h => ?_) | refine WL.caseB rfl rfl rfl (fun h => ?_) (fun h => ?_) | refine WD.caseP rfl rfl rfl (fun h => ?_) (fun h => ?_) | refine WD.caseN rfl rfl rfl (fun h => ?_) (fun h => ?_) | refine WD.caseB rfl rfl rfl (fun h => ?_) (fun h => ?_)) <;> (first | (exfalso; first | omega | contradiction) | (dsimp only [z0, z1]))) | (apply WC.condD; (exact oD); all_goals (intro h; try exact xD)) | (apply WC.condN; (exact oD); all_goals (intro h; try exact xD)) | refine WC.skip ?_ | refine WC.block ?_ | refine ThenD.n ?_)); all_goals (first | ((repeat clear hK); (repeat clear Kx))))
              all_goals first | (exfalso; omega) | skip
              (refine ⟨k + 1, ?_, by first | omega | (simp only; omega), rfl, ?_⟩; rotate_left; ((try dsimp only [upds, z0, z1]); repeat (first | exact LeF.nil | refine LeF.co (k := ?_))); (try dsimp only))
              omega
        · ((repeat' (first | ((first | apply WL.opN | apply WD.opN); exact yF; dsimp only [setD, z0, z1]) | refine WL.nil ?_ | refine WC.seqK fun Kx hK => ?_ | (refine hK _ _ ?_; clear hK) | (refine Kont.skip ?_; clear hK) | refine WC.region ?_ | (apply WL.alloc; (first | exact tzV | exact tzC); (first | exact shape_X rfl | exact shape_XV | exact shape_C0 rfl); (intro _; dsimp only [setD, z0, z1])) | (apply WL.storeF; (exact tD); rfl; (exact oD); (exact hD); dsimp only [setD, z0, z1]) | ((first | apply WL.opG | apply WD.op); (focus (first | exact wN | (apply SYG.yes; (exact wY); ((first | (apply SY.call (c6) Tryz.call36; exact ArgsD.cons (OpD.t rfl) (ArgsD.cons (OpD.t rfl) (ArgsD.nil))) | (apply SY.call (c7) Tryz.call36; exact ArgsD.cons (OpD.t rfl) (ArgsD.cons (OpD.t rfl) (ArgsD.nil))) | (apply SY.call (c8) Tryz.call17; exact ArgsD.cons (OpD.t rfl) (ArgsD.cons (OpD.t rfl) (ArgsD.nil))) | (apply SY.call (awake32_p) Tryz.call12; (exact aD)) | ((first | apply SY.move | apply SY.assign | apply SY.lss | apply SY.eql | apply SY.neq | apply SY.not) <;> (exact oD)) | (apply SY.fldP0 colT; exact OpD.t rfl) | (apply SY.fldP1 colT; exact OpD.t rfl) | (apply SY.pickT; (exact oD); (with_reducible rfl); (exact oD)) | (apply SY.extract; (exact oD); rfl) | fail); all_goals infer_instance)))); dsimp only [setD, z0, z1]) | ((first | refine WL.caseP rfl rfl rfl (fun h => ?_) (fun h => ?_) | refine WL.caseN rfl rfl rfl (fun h => ?_) (fun h => ?_) | refine WL.caseB rfl rfl rfl (fun h => ?_) (fun h => ?_) | refine WD.caseP rfl rfl rfl (fun h => ?_) (fun h => ?_) | refine WD.caseN rfl rfl rfl (fun h => ?_) (fun h => ?_) | refine WD.caseB rfl rfl rfl (fun h => ?_) (fun h => ?_)) <;> (first | (exfalso; first | omega | contradiction) | (dsimp only [z0, z1]))) | (apply WC.condD; (exact oD); all_goals (intro h; try exact xD)) | refine WC.ret ?_ | refine WC.exit ?_)); all_goals (first | ((repeat clear hK); (repeat clear Kx))))
          all_goals first | (exfalso; omega) | (refine ⟨trivial, _, rfl, ?_⟩; exact fD)
end Go.Proofs.YtjbepoofigokjaaGreat
