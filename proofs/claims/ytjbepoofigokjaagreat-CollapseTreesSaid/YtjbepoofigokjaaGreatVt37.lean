/-
  Part 37 of the texts that the claims of this seat lean on: walks of the program's functions by contracts over symbolic frames, and plain laws of what they compute. No condition.
-/
import Derived.Deep.SlicePairs
import Derived.Lib.SmallJoins
import Derived.OpenShut
import Derived.ProofKit
import Derived.Test.YtjbepoofigokjaaGreatRows
import Derived.Test.YtjbepoofigokjaaGreatVt6
import Derived.Test.YtjbepoofigokjaaGreatVt9
import Derived.Test.YtjbepoofigokjaaGreatVt19
import Derived.Test.YtjbepoofigokjaaGreatVt35
import Derived.Test.YtjbepoofigokjaaGreatVt36
set_option linter.unusedVariables false
set_option linter.unusedSimpArgs false
set_option linter.unusedSectionVars false
namespace Go.Proofs.YtjbepoofigokjaaGreat
open Go.RowKit
set_option linter.unusedSimpArgs false

set_option maxHeartbeats 2000000
set_option maxRecDepth 100000
theorem bytes_E {es : List (Int × Int)} {I : Nat → Prop} {w : World} {v : Value} (h : (dS (ArrK 2 RE) es).rd I w v) : ∀ x ∈ es, (0 ≤ x.1 ∧ x.1 ≤ 255) ∧ 0 ≤ x.2 ∧ x.2 ≤ 255 := fun x hx => by
  obtain ⟨ad, cap, rfl, h1, h2, h0, h3⟩ := (h : ArrK 2 RE I w v es)
  obtain ⟨k, hk, rfl⟩ := List.getElem_of_mem hx
  obtain ⟨us, b, off, hr, _⟩ := h3 k hk
  exact (hr : _ ∧ _).2
set_option maxHeartbeats 16000000 in
theorem trees32_p (es : List (Int × Int)) : Fn Tryz.prog 8 [dS (ArrK 2 RE) es] (dB true) := by
  (refine Fn.intro1 Tryz.func8 rfl rfl ?_; simp only [Tryz.ntmps8, List.length_cons, List.length_nil, Nat.reduceAdd, Nat.reduceSub, List.replicate_succ, List.replicate_zero, List.cons_append, List.nil_append])
  refine WC.know (t := 0) (p := ∀ x ∈ es, (0 ≤ x.1 ∧ x.1 ≤ 255) ∧ 0 ≤ x.2 ∧ x.2 ≤ 255) rfl (fun _ _ _ h => bytes_E h) fun hb => ?_
  by_cases h16 : 16 < es.length
  · ((repeat' (first | ((first | apply WL.opN | apply WD.opN); exact yF; dsimp only [setD, z0, z1]) | refine WL.nil ?_ | refine WC.seqK fun Kx hK => ?_ | (refine hK _ _ ?_; clear hK) | refine WC.region ?_ | ((first | apply WL.opG | apply WD.op); (focus (first | exact wN | (apply SYG.yes; (exact wY); ((first | (apply SY.len; exact OpD.t rfl; exact len_K; exact elE2.unt) | (apply SY.call (awake32_p) Tryz.call12; (exact aD)) | ((first | apply SY.move | apply SY.assign | apply SY.lss | apply SY.gtr | apply SY.eql | apply SY.neq | apply SY.not) <;> (exact oD)) | fail); all_goals infer_instance)))); dsimp only [setD, z0, z1]) | (apply WC.condD; (exact oD); all_goals (intro h; try exact xD)) | refine WC.ret ?_ | refine ThenD.r ?_)); all_goals (first | ((repeat clear hK); (repeat clear Kx))))
    all_goals first | (exfalso; omega) | (refine ⟨trivial, _, rfl, ?_⟩; exact fD)
  · obtain ⟨hof, G, hwh, h2⟩ := edges_ok (es := es) (by omega)
    have c1 := of27_p (es.map edgE)
    rw [hof] at c1
    have c2 := coll32_p (maxC (es.map edgE))
    obtain ⟨m, hm, hml⟩ := graph_coll G hwh h2
    rw [hm] at c2
    have c3 := count32_p (maxC (es.map edgE)) G hwh
    have la := sizes_len (maxC (es.map edgE))
    have zA : ∀ h : 0 < (sizesN (maxC (es.map edgE))).length, (sizesN (maxC (es.map edgE)))[0] = ((allC (maxC (es.map edgE)) 1).length : Int) := fun h => sizes_at _ h
    have zB : ∀ h : 1 < (sizesN (maxC (es.map edgE))).length, (sizesN (maxC (es.map edgE)))[1] = ((allC (maxC (es.map edgE)) 2).length : Int) := fun h => sizes_at _ h
    generalize sizesN (maxC (es.map edgE)) = SA at *
    have h0 : 0 < SA.length := by omega
    have h1 : 1 < SA.length := by omega
    have zA := zA h0
    have zB := zB h1
    have b1 : (allC (maxC (es.map edgE)) 1).length ≤ 4096 := Nat.le_trans (whole_mono _ (k := 0) (by decide)) hwh
    have b2 : (allC (maxC (es.map edgE)) 2).length ≤ 4096 := Nat.le_trans (whole_mono _ (k := 1) (by decide)) hwh
    clear hof G h2 hwh
    generalize maxC (es.map edgE) = C at *
    generalize eulS C 8 = EU at *
    generalize partsN C = PN at *
    generalize (allC C 1).length = n1 at *
    generalize (allC C 2).length = n2 at *
    (repeat' (first | ((first | apply WL.opN | apply WD.opN); exact yF; dsimp only [setD, z0, z1]) | refine WL.nil ?_ | refine WC.seqK fun Kx hK => ?_ | (refine hK _ _ ?_; clear hK) | refine WC.region ?_ | ((first | apply WL.opG | apply WD.op); (focus (first | exact wN | (apply SYG.yes; (exact wY); ((first | (apply SY.len; exact OpD.t rfl; exact len_K; exact elE2.unt) | ((first | apply SY.move | apply SY.assign | apply SY.lss | apply SY.gtr | apply SY.eql | apply SY.neq | apply SY.not) <;> (exact oD)) | fail); all_goals infer_instance)))); dsimp only [setD, z0, z1]) | (apply WC.condD; (exact oD); all_goals (intro h; try exact xD)) | refine WC.skip ?_ | refine WC.block ?_))
    all_goals first | (exfalso; omega) | skip
    refine WC.nilRow 34 Verts ?_
    (refine WC.loopU (X := Nat × Value × Cx) (fun x => [(24, dI (x.1 : Int)), (3, dX x.2.1), (5, dA), (6, dA), (7, dA), (8, dA), (25, dA), (26, dA), (27, dA), (28, dA), (29, dA), (30, dA), (31, dA), (32, dA), (33, dA), (34, dA), (35, dA), (36, dA), (37, dA), (38, dA), (39, dA), (40, dA), (41, dA), (42, dA), (43, dA), (44, dA), (45, dA), (46, dA), (47, dA), (48, dA), (49, dA), (50, dA)]) (fun x => [hRow x.2.1 34 Verts x.2.2]) (fun x => es.length - x.1) (fun x => x.1 ≤ es.length ∧ x.2.2 = (es.take x.1).map edgE) (0, .slice none 0 0, []) ?start ?frame0 ?objs0 ?round)
    case start => exact ⟨Nat.zero_le _, rfl⟩
    case frame0 => ((try dsimp only [upds, z0, z1]); repeat (first | exact LeF.nil | refine LeF.co (k := ?_)))
    case objs0 => rfl
    case round =>
      rintro ⟨k, u, A⟩ ⟨q1, q2⟩
      simp only at q1 q2
      dsimp only [upds, z0, z1]
      by_cases hk : k < es.length
      · have hbk := hb es[k] (List.getElem_mem hk)
        have hAl : A.length = k := by rw [q2, List.length_map, List.length_take]; omega
        have m1 : 0 ≤ es[k].1 % 7 ∧ es[k].1 % 7 ≤ 255 := by omega
        have m2 : 0 ≤ es[k].2 % 7 ∧ es[k].2 % 7 ≤ 255 := by omega
        have hso := edgE_sort es[k]
        ((repeat' (first | ((first | apply WL.opN | apply WD.opN); exact yF; dsimp only [setD, z0, z1]) | refine WL.nil ?_ | refine WD.nil ?_ | refine WC.seqK fun Kx hK => ?_ | (refine hK _ _ ?_; clear hK) | refine WC.region ?_ | (apply WC.draw; kernel_rfl; kernel_rfl) |  (apply WL.alloc tzE2; exact shape_ZE; (intro b5; dsimp only [setD, z0, z1])) |  (refine WL.storeF tyE2 rfl (OpD.t rfl) shape_E ?_; dsimp only [setD, z0, z1]) |  (apply WL.litK (R := RV) (els := [(0, lowE (es[k].1 % 7) (es[k].2 % 7)), (0, topE (es[k].1 % 7) (es[k].2 % 7))]) (by decide) elV (ElsD.cn (OpD.t rfl) (ElsD.cn (OpD.t rfl) ElsD.nl)) rfl rfl (fun _ => shape_V) (by simp); intro vl; dsimp only [setD, z0, z1]) |  (refine WL.inRow (compact_k _ _ hso (by simp)) Tryz.call32 (ArgsD.cons (OpD.t rfl) ArgsD.nil) ?_; intro vd zs hzs; obtain rfl : zs = edgE es[k] := asc_ext hzs.1 (edgE_asc _) (fun u => (hzs.2 u).trans (edgE_mem _ u).symm); dsimp only [setD, z0, z1]; refine WL.freezeK (s := 47) rfl ?_; dsimp only [z0, z1]) | ((first | apply WL.pushK | apply WL.push1); (exact eD); exact OpD.t rfl; (exact oD); (intro _; exact hD); (exact (by simp)); (exact (by simp)); (first | exact ⟨by decide, by decide⟩ | skip); decide; (exact lD); (intro _; dsimp only [setD, z0, z1]); all_goals (try infer_instance)) | ((first | apply WL.opG | apply WD.op); (focus (first | exact wN | (apply SYG.yes; (exact wY); ((first | (refine SY.ixKJ (R := RE) (_gR := inferInstance) elE2 (OpD.t rfl) (OpD.t rfl) k rfl hk) | (apply SY.load tyE2; exact OpD.t rfl) | (apply SY.load tyB8; exact OpD.t rfl) | (refine SY.ixE0 (OpD.t rfl) OpD.i) | (refine SY.ixE1 (OpD.t rfl) OpD.i) | (refine SY.rem7 (OpD.t rfl) hbk.1) | (refine SY.rem7 (OpD.t rfl) hbk.2) | (apply SY.convX; exact OpD.t rfl; exact cvU8 _ m1) | (apply SY.convX; exact OpD.t rfl; exact cvU8 _ m2) | (apply SY.minI; exact OpD.t rfl; exact OpD.t rfl) | (apply SY.maxI; exact OpD.t rfl; exact OpD.t rfl) | ((first | apply SY.move | apply SY.assign | apply SY.lss | apply SY.gtr | apply SY.eql | apply SY.neq | apply SY.not) <;> (exact oD)) | ((first | apply SY.add | apply SY.sub | apply SY.rem) <;> first | exact oD | omega) | (first | (apply SY.mkV0 vxT <;> (exact oD)) | (apply SY.mkV1 vxT <;> (exact oD)) | (apply SY.mkV vxT <;> (exact oD)) | (apply SY.eqlV vxT <;> (exact oD)) | (apply SY.neqV vxT <;> (exact oD))) | fail); all_goals infer_instance)))); dsimp only [setD, z0, z1]) | (apply WC.condD; (exact oD); all_goals (intro h; try exact xD)) | refine WC.skip ?_ | refine WC.block ?_ | refine ThenD.n ?_)); all_goals (first | ((repeat clear hK); (repeat clear Kx))))
        all_goals first | (exfalso; omega) | skip
        rename_i v'
        (refine ⟨(k + 1, v', A ++ [edgE es[k]]), ?_, by first | omega | (simp only; omega), rfl, ?_⟩; rotate_left; ((try dsimp only [upds, z0, z1]); repeat (first | exact LeF.nil | refine LeF.co (k := ?_))); (try dsimp only))
        exact ⟨by show k + 1 ≤ es.length; omega, by show A ++ [edgE es[k]] = (es.take (k + 1)).map edgE; rw [q2, List.take_succ_eq_append_getElem hk, List.map_append]; rfl⟩
      · obtain rfl : k = es.length := by omega
        rw [List.take_length] at q2
        subst q2
        refine WC.freeze1 (s := 3) rfl ?_
        dsimp only [z0, z1]
        by_cases hp1 : PN = 1
        · by_cases he : (n2 : Int) = (n1 : Int) - 1
          · have hl := hml ⟨hp1, he⟩
            rw [if_pos ⟨hp1, he⟩] at c2
            ((repeat' (first | ((first | apply WL.opN | apply WD.opN); exact yF; dsimp only [setD, z0, z1]) | refine WL.nil ?_ | refine WD.nil ?_ | refine WC.seqK fun Kx hK => ?_ | (refine hK _ _ ?_; clear hK) | (refine Kont.skip ?_; clear hK) | refine WC.region ?_ | (apply WC.draw; kernel_rfl; kernel_rfl) | (apply WL.alloc; (first | exact tzV | exact tzC); (first | exact shape_X rfl | exact shape_XV | exact shape_C0 rfl); (intro _; dsimp only [setD, z0, z1])) | (apply WL.storeF; (exact tD); rfl; (exact oD); (exact hD); dsimp only [setD, z0, z1]) | ((first | apply WL.opG | apply WD.op); (focus (first | exact wN | (apply SYG.yes; (exact wY); ((first | (apply SY.call (c1) Tryz.call33; (exact aD)) | (apply SY.call (c2) Tryz.call22; (exact aD)) | (apply SY.call (c3) Tryz.call34; (exact aD)) | (refine SY.ixJ (R := RI) (_gR := inferInstance) elI (OpD.t rfl) OpD.i 1 rfl h1) | (refine SY.ixJ (R := RI) (_gR := inferInstance) elI (OpD.t rfl) OpD.i 0 rfl h0) | (apply SY.call (awake32_p) Tryz.call12; (exact aD)) | ((first | apply SY.move | apply SY.assign | apply SY.lss | apply SY.gtr | apply SY.eql | apply SY.neq | apply SY.not) <;> (exact oD)) | ((first | apply SY.add | apply SY.sub | apply SY.rem) <;> first | exact oD | omega) | (apply SY.load; (exact tD); (exact oD)) | (apply SY.len; (exact oD); (exact nD); (exact uD)) | (apply SY.pickT; (exact oD); (with_reducible rfl); (exact oD)) | (apply SY.pickF; (exact oD); (with_reducible rfl); (exact oD)) | (apply SY.extract; (exact oD); rfl) | fail); all_goals infer_instance)))); dsimp only [setD, z0, z1]) | ((first | refine WL.caseP rfl rfl rfl (fun h => ?_) (fun h => ?_) | refine WL.caseN rfl rfl rfl (fun h => ?_) (fun h => ?_) | refine WL.caseB rfl rfl rfl (fun h => ?_) (fun h => ?_) | refine WD.caseP rfl rfl rfl (fun h => ?_) (fun h => ?_) | refine WD.caseN rfl rfl rfl (fun h => ?_) (fun h => ?_) | refine WD.caseB rfl rfl rfl (fun h => ?_) (fun h => ?_)) <;> (first | (exfalso; first | omega | contradiction) | (dsimp only [z0, z1]))) | (apply WC.condD; (exact oD); all_goals (intro h; try exact xD)) | (apply WC.condN; (exact oD); all_goals (intro h; try exact xD)) | refine WC.skip ?_ | refine WC.ret ?_ | refine WC.exit ?_ | refine ThenD.r ?_)); all_goals (first | ((repeat clear hK); (repeat clear Kx))))
            all_goals first | (exfalso; omega) | (refine ⟨trivial, _, rfl, ?_⟩; exact fD)
          · rw [if_neg (fun q => he q.2)] at c2
            ((repeat' (first | ((first | apply WL.opN | apply WD.opN); exact yF; dsimp only [setD, z0, z1]) | refine WL.nil ?_ | refine WD.nil ?_ | refine WC.seqK fun Kx hK => ?_ | (refine hK _ _ ?_; clear hK) | (refine Kont.skip ?_; clear hK) | refine WC.region ?_ | (apply WC.draw; kernel_rfl; kernel_rfl) | (apply WL.alloc; (first | exact tzV | exact tzC); (first | exact shape_X rfl | exact shape_XV | exact shape_C0 rfl); (intro _; dsimp only [setD, z0, z1])) | (apply WL.storeF; (exact tD); rfl; (exact oD); (exact hD); dsimp only [setD, z0, z1]) | ((first | apply WL.opG | apply WD.op); (focus (first | exact wN | (apply SYG.yes; (exact wY); ((first | (apply SY.call (c1) Tryz.call33; (exact aD)) | (apply SY.call (c2) Tryz.call22; (exact aD)) | (apply SY.call (c3) Tryz.call34; (exact aD)) | (refine SY.ixJ (R := RI) (_gR := inferInstance) elI (OpD.t rfl) OpD.i 1 rfl h1) | (refine SY.ixJ (R := RI) (_gR := inferInstance) elI (OpD.t rfl) OpD.i 0 rfl h0) | (apply SY.call (awake32_p) Tryz.call12; (exact aD)) | ((first | apply SY.move | apply SY.assign | apply SY.lss | apply SY.gtr | apply SY.eql | apply SY.neq | apply SY.not) <;> (exact oD)) | ((first | apply SY.add | apply SY.sub | apply SY.rem) <;> first | exact oD | omega) | (apply SY.load; (exact tD); (exact oD)) | (apply SY.len; (exact oD); (exact nD); (exact uD)) | (apply SY.pickT; (exact oD); (with_reducible rfl); (exact oD)) | (apply SY.pickF; (exact oD); (with_reducible rfl); (exact oD)) | (apply SY.extract; (exact oD); rfl) | fail); all_goals infer_instance)))); dsimp only [setD, z0, z1]) | ((first | refine WL.caseP rfl rfl rfl (fun h => ?_) (fun h => ?_) | refine WL.caseN rfl rfl rfl (fun h => ?_) (fun h => ?_) | refine WL.caseB rfl rfl rfl (fun h => ?_) (fun h => ?_) | refine WD.caseP rfl rfl rfl (fun h => ?_) (fun h => ?_) | refine WD.caseN rfl rfl rfl (fun h => ?_) (fun h => ?_) | refine WD.caseB rfl rfl rfl (fun h => ?_) (fun h => ?_)) <;> (first | (exfalso; first | omega | contradiction) | (dsimp only [z0, z1]))) | (apply WC.condD; (exact oD); all_goals (intro h; try exact xD)) | (apply WC.condN; (exact oD); all_goals (intro h; try exact xD)) | refine WC.skip ?_ | refine WC.ret ?_ | refine WC.exit ?_)); all_goals (first | ((repeat clear hK); (repeat clear Kx))))
            all_goals first | (exfalso; omega) | (refine ⟨trivial, _, rfl, ?_⟩; exact fD)
        · rw [if_neg (fun q => hp1 q.1)] at c2
          ((repeat' (first | ((first | apply WL.opN | apply WD.opN); exact yF; dsimp only [setD, z0, z1]) | refine WL.nil ?_ | refine WD.nil ?_ | refine WC.seqK fun Kx hK => ?_ | (refine hK _ _ ?_; clear hK) | (refine Kont.skip ?_; clear hK) | refine WC.region ?_ | (apply WC.draw; kernel_rfl; kernel_rfl) | (apply WL.alloc; (first | exact tzV | exact tzC); (first | exact shape_X rfl | exact shape_XV | exact shape_C0 rfl); (intro _; dsimp only [setD, z0, z1])) | (apply WL.storeF; (exact tD); rfl; (exact oD); (exact hD); dsimp only [setD, z0, z1]) | ((first | apply WL.opG | apply WD.op); (focus (first | exact wN | (apply SYG.yes; (exact wY); ((first | (apply SY.call (c1) Tryz.call33; (exact aD)) | (apply SY.call (c2) Tryz.call22; (exact aD)) | (apply SY.call (c3) Tryz.call34; (exact aD)) | (apply SY.call (awake32_p) Tryz.call12; (exact aD)) | ((first | apply SY.move | apply SY.assign | apply SY.lss | apply SY.gtr | apply SY.eql | apply SY.neq | apply SY.not) <;> (exact oD)) | (apply SY.len; (exact oD); (exact nD); (exact uD)) | (apply SY.pickT; (exact oD); (with_reducible rfl); (exact oD)) | (apply SY.pickF; (exact oD); (with_reducible rfl); (exact oD)) | (apply SY.extract; (exact oD); rfl) | fail); all_goals infer_instance)))); dsimp only [setD, z0, z1]) | ((first | refine WL.caseP rfl rfl rfl (fun h => ?_) (fun h => ?_) | refine WL.caseN rfl rfl rfl (fun h => ?_) (fun h => ?_) | refine WL.caseB rfl rfl rfl (fun h => ?_) (fun h => ?_) | refine WD.caseP rfl rfl rfl (fun h => ?_) (fun h => ?_) | refine WD.caseN rfl rfl rfl (fun h => ?_) (fun h => ?_) | refine WD.caseB rfl rfl rfl (fun h => ?_) (fun h => ?_)) <;> (first | (exfalso; first | omega | contradiction) | (dsimp only [z0, z1]))) | (apply WC.condF; (exact oD); (with_reducible rfl)) | (apply WC.condD; (exact oD); all_goals (intro h; try exact xD)) | (apply WC.condN; (exact oD); all_goals (intro h; try exact xD)) | refine WC.skip ?_ | refine WC.ret ?_ | refine WC.exit ?_)); all_goals (first | ((repeat clear hK); (repeat clear Kx))))
          all_goals first | (exfalso; omega) | (refine ⟨trivial, _, rfl, ?_⟩; exact fD)
end Go.Proofs.YtjbepoofigokjaaGreat
namespace Go.Proofs.YtjbepoofigokjaaGreat
open Go.ChangeShapes Go.WideShapes Go.ChangeAt Go.RowKit
set_option maxRecDepth 100000

theorem own : ownKnob Tryz.prog.godebug = none := by kernel_rfl
theorem laidOut : laidOutB Tryz.prog = true := by kernel_rfl

section
variable {H : Type} {enc : TypeId × Value → H}

theorem args_kept {W W' : World} (hE : Ext W W') : ∀ {ts : List TypeId} {vs : List Value} {ds : List (DataW H)} {ps : List MemPlace}, (∀ t ∈ ts, Tryz.prog.readableRec t = true ∧ t < Tryz.prog.types.size) → (∀ p ∈ ps, p.block < W.heap.size) →
    DataW.TrodAll enc Tryz.prog W 0 (fun _ => true) true ts vs ds ps → DataW.TrodAll enc Tryz.prog W' 0 (fun b => decide (b < W.heap.size)) true ts vs ds ps
  | [], _, _, _, _, _, h => by
    obtain ⟨rfl, rfl, rfl⟩ := trodAll_nil h
    exact trodAll_mk0
  | t :: ts, _, _, _, ht, hlt, h => by
    obtain ⟨v, vs1, d, ds1, a, b, rfl, rfl, rfl, h1, h2⟩ := trodAll_cons h
    exact trodAll_cons_mk (Below.trod laidOut (ht t (by simp)).1 (ht t (by simp)).2 h1 hE (fun x hx => hlt x (by simp [hx]))) (args_kept hE (fun t' h' => ht t' (by simp [h'])) (fun p hp => hlt p (by simp [hp])) h2)

theorem post_law {f : Func} {s : ChangeSpec} {W W' : World} {args : Array Value} {ds gs : List (DataW H)} {before : List MemPlace} (hW : DataW.Whole enc Tryz.prog f.params.toList s.vars false W args.toList ds gs before) (hvars : s.vars = [])
    (hr : f.resultTypes = #[4]) (hs : s.fn H ds = { results := [.lit (.bool true)], args := ds }) (ht : ∀ t ∈ f.params.toList, Tryz.prog.readableRec t = true ∧ t < Tryz.prog.types.size) (hE : Ext W W') :
    s.post enc Tryz.prog f false true false false W args (.bool true) W' := by
  have hlt := hW.lt
  have hW' := hW
  obtain ⟨p, q, hA, hV, rfl, hfz, hnd⟩ := hW
  rw [hvars] at hV
  obtain ⟨rfl, rfl⟩ := trodVars_none hV
  refine ⟨ds, [], p ++ [], [], p, [], hW', ?_, ?_, ?_, hE.frame _, fun h => by cases h⟩
  · rw [hr, List.append_nil, hs]
    exact trodAll_mk1 (shut_bool Tryz.underlying4 true)
  · rw [List.append_nil, hs]
    exact args_kept hE ht (fun x hx => hlt x (by simp [hx])) hA
  · rw [hvars, List.append_nil, hs]
    rfl
theorem fn_law {f : FuncId} {ds : List Dat} (hF : Fn Tryz.prog f ds (dB true)) {W : World} {vs : List Value} (hl : vs.length = ds.length) (h : ∀ (i : Nat) (d : Dat), ds[i]? = some d → d.rd anyB W (vs.getD i undef)) :
    Calls Tryz.prog f vs.toArray W fun e W' => e = .returned (.bool true) ∧ Ext W W' :=
  (hF.out anyB W vs hl h).mono fun _ _ ⟨_, h1, h2, h3⟩ => by cases (h3 : _ = _); exact ⟨h1, h2⟩
end
end Go.Proofs.YtjbepoofigokjaaGreat
namespace Go.Proofs.YtjbepoofigokjaaGreat
open Go.ChangeShapes Go.WideShapes Go.ChangeAt Go.RowKit
set_option maxRecDepth 100000
section
variable {H : Type} {enc : TypeId × Value → H}
theorem cellsE2 : Tryz.prog.cellsOf 61 = 2 := by kernel_rfl
theorem cellsB8 : Tryz.prog.cellsOf 5 = 1 := by kernel_rfl
theorem trod_pair8 {w : World} {fuel : Nat} {cs : List Value} {x : DataW H × List MemPlace} (hl : cs.length = 2) (h : DataW.trod enc Tryz.prog w 0 (fun _ => true) true fuel 61 cs = some x) : ∃ a b : Int, cs = [.int .u8 a, .int .u8 b] ∧ (0 ≤ a ∧ a ≤ 255) ∧ 0 ≤ b ∧ b ≤ 255 := by
  cases fuel with
  | zero => simp [DataW.trod] at h
  | succ n =>
    obtain ⟨c0, c1, rfl⟩ : ∃ c0 c1, cs = [c0, c1] := by
      match cs, hl with
      | [c0, c1], _ => exact ⟨c0, c1, rfl⟩
    rw [DataW.trod_step] at h
    unfold DataW.trodStep at h
    simp only [Tryz.underlying61] at h
    rw [if_pos (by rw [cellsE2]; rfl)] at h
    simp only [Option.map_eq_some_iff] at h
    obtain ⟨xs, hx, e1⟩ := h
    rw [show List.range 2 = [0, 1] from rfl, List.mapM_cons, List.mapM_cons, List.mapM_nil] at hx
    simp only [bind, Option.bind_eq_some_iff, pure, Option.some.injEq, cellsB8] at hx
    obtain ⟨y0, h0, _, ⟨y1, h1, _, rfl, rfl⟩, rfl⟩ := hx
    obtain ⟨a, ea, rfl, wa⟩ := DataW.trod_int Tryz.underlying5 h0
    obtain ⟨b, eb, rfl, wb⟩ := DataW.trod_int Tryz.underlying5 h1
    simp at ea eb
    subst ea; subst eb
    exact ⟨a, b, rfl, by simpa [Lit.wf, IntKind.min, IntKind.max, IntKind.signed, IntKind.bits] using wa, by simpa [Lit.wf, IntKind.min, IntKind.max, IntKind.signed, IntKind.bits] using wb⟩
theorem open_E {w : World} {fuel : Nat} {v : Value} {x : DataW H × List MemPlace} (h : DataW.trod enc Tryz.prog w 0 (fun _ => true) true fuel 60 [v] = some x) :
    ∃ xs, ArrK 2 RE anyB w v xs := by
  rcases Deep.open_slice Tryz.underlying60 h with ⟨hc, _⟩ | ⟨a, len, cap, m, n, D, Pl, hc, _, hl, hm, hmm, _, hx⟩
  · obtain rfl : v = .slice none 0 0 := by simpa using hc
    exact ⟨[], ArrK.nil' (by decide)⟩
  · obtain rfl : v = .slice (some a) len cap := by simpa using hc
    simp only [if_true] at hmm
    subst hmm
    rw [cellsE2] at hx
    have hz : ∀ i, ∃ p : Int × Int, i < m → w.cell? ((a.add (i * 2)).add 0) = some (.int .u8 p.1) ∧ w.cell? ((a.add (i * 2)).add 1) = some (.int .u8 p.2) ∧ (0 ≤ p.1 ∧ p.1 ≤ 255) ∧ 0 ≤ p.2 ∧ p.2 ≤ 255 := fun i => by
      by_cases hi : i < m
      · obtain ⟨cs, h1, h2⟩ := hx i hi
        obtain ⟨_, hlen, hcell⟩ := World.cells?_some h1
        obtain ⟨p, q, rfl, hp, hq⟩ := trod_pair8 hlen h2
        exact ⟨(p, q), fun _ => ⟨by simpa using hcell 0 (by omega), by simpa using hcell 1 (by omega), hp, hq⟩⟩
      · exact ⟨(0, 0), fun h => absurd h hi⟩
    obtain ⟨z, hz⟩ := Classical.axiomOfChoice hz
    have hlen : ((List.range len).map z).length = len := by simp
    refine ⟨(List.range len).map z, some a, m, by rw [hlen], by rw [hlen]; exact hl, hm, by decide, fun k hk => ?_⟩
    rw [hlen] at hk
    have hs := World.cell?_spot (hz 0 (by omega)).1
    obtain ⟨b, off, sp⟩ := a
    obtain rfl : sp = none := by simpa [Addr.add] using hs
    obtain ⟨e0, e1, e2⟩ := hz k (by omega)
    refine ⟨[.int .u8 (z k).1, .int .u8 (z k).2], b, off, ?_, rfl, by simp [Value.oneCell'], rfl, trivial, fun j c hc => ?_⟩
    · rw [List.getElem_map, List.getElem_range]
      exact ⟨rfl, e2⟩
    rw [Addr.add_lit, Addr.add_lit] at e0 e1
    match j, hc with
    | 0, hc => cases hc; exact e0
    | 1, hc => cases hc; exact e1
theorem open_E' {w : World} {r : Reach} {b0 : Nat} {v : Value} {d : DataW H} {ps : List MemPlace} (hv : Value.okWide Tryz.prog w r b0 60 v) (h : DataW.Trod enc Tryz.prog w 0 (fun _ => true) true 60 v d ps) : ∃ xs, (dS (ArrK 2 RE) xs).rd anyB w v := by
  obtain ⟨fuel, h⟩ := h
  obtain ⟨a, len, cap, rfl⟩ := okWide_slice Tryz.underlying60 hv
  exact open_E h
end
end Go.Proofs.YtjbepoofigokjaaGreat
