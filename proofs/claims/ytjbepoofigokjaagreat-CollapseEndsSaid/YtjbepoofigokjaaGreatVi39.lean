/-
  Part 39 of the texts that the claims of this seat lean on: walks of the program's functions by contracts over symbolic frames, and plain laws of what they compute. No condition.
-/
import Derived.Test.YtjbepoofigokjaaGreatVi24
import Derived.Test.YtjbepoofigokjaaGreatVi38
set_option linter.unusedVariables false
set_option linter.unusedSimpArgs false
set_option linter.unusedSectionVars false
namespace Go.Proofs.YtjbepoofigokjaaGreat
open Go.RowKit
set_option linter.unusedSimpArgs false

set_option maxHeartbeats 2000000
set_option maxRecDepth 100000
theorem pair32_p (a b : List Vx) : Fn Tryz.prog 42 [dS Verts a, dS Verts b] (dS Col (a, b)) := by
  refine Fn.introC1 tyCo Tryz.func42 rfl rfl ?_
  simp only [Tryz.ntmps42, List.length_cons, List.length_nil, Nat.reduceAdd, Nat.reduceSub, List.replicate_succ, List.replicate_zero, List.cons_append, List.nil_append]
  ((repeat' (first | (apply WL.opN; exact yF; dsimp only [setD, z0, z1]) | refine WL.nil ?_ | refine WC.seqK fun Kx hK => ?_ | (refine hK _ _ ?_; clear hK) | refine WC.region ?_ |  (apply WL.alloc tzCo; exact shape_Z2; (intro b4; dsimp only [setD, z0, z1])) |  (refine WL.storeF tyCo rfl (OpD.t rfl) shape_P ?_; dsimp only [setD, z0, z1]) | (apply WL.opN; (focus ((first | (apply SY.mkP colT <;> exact OpD.t rfl) | fail); all_goals infer_instance)); dsimp only [setD, z0, z1]) | refine WC.ret ?_)); all_goals (first | ((repeat clear hK); (repeat clear Kx))))
  (refine ⟨trivial, _, rfl, ?_⟩; exact fD)
theorem simplex32_p (cs : List Int) (hl : cs.length ≤ 100) : Fn Tryz.prog 41 [dS Ints cs] (dS Verts (cs.map fun c => (c, 0))) := by
  (refine Fn.intro1 Tryz.func41 rfl rfl ?_; simp only [Tryz.ntmps41, List.length_cons, List.length_nil, Nat.reduceAdd, Nat.reduceSub, List.replicate_succ, List.replicate_zero, List.cons_append, List.nil_append])
  (repeat' (first | (apply WL.opN; exact yF; dsimp only [setD, z0, z1]) | refine WL.nil ?_ | refine WC.seqK fun Kx hK => ?_ | (refine hK _ _ ?_; clear hK) | refine WC.region ?_ | (apply WL.opN; (focus ((first | (apply SY.len; (exact oD); (exact nD); (exact uD)) | fail); all_goals infer_instance)); dsimp only [setD, z0, z1]) | refine WC.block ?_))
  refine WC.nilRowK 63 2 (by decide) RV ?_
  (refine WC.loopU (X := Nat × Value × List Vx) (fun x => [(8, dI (x.1 : Int)), (3, dX x.2.1), (5, dA), (9, dA), (10, dA), (11, dA), (12, dA), (13, dA), (14, dA), (15, dA), (16, dA), (17, dA)]) (fun x => [hRowK x.2.1 63 2 RV x.2.2]) (fun x => cs.length - x.1) (fun x => x.1 ≤ cs.length ∧ x.2.2 = (cs.take x.1).map fun c => (c, 0)) (0, .slice none 0 0, []) ?start ?frame0 ?objs0 ?round)
  case start => exact ⟨Nat.zero_le _, rfl⟩
  case frame0 => ((try dsimp only [upds, z0, z1]); repeat (first | exact LeF.nil | refine LeF.co (k := ?_)))
  case objs0 => rfl
  case round =>
    rintro ⟨k, v, o⟩ ⟨h1, h2⟩
    simp only at h1 h2
    have hol : o.length ≤ 100 := by rw [h2, List.length_map, List.length_take]; omega
    dsimp only [upds, z0, z1]
    by_cases hk : k < cs.length
    · ((repeat' (first | (apply WL.opN; exact yF; dsimp only [setD, z0, z1]) | refine WL.nil ?_ | refine WC.seqK fun Kx hK => ?_ | (refine hK _ _ ?_; clear hK) | refine WC.region ?_ | ((first | apply WL.pushK | apply WL.push1); (exact eD); exact OpD.t rfl; (exact oD); (intro _; exact hD); (exact (by simp)); (exact (by simp)); (first | exact ⟨by decide, by decide⟩ | skip); decide; (exact lD); (intro _; dsimp only [setD, z0, z1]); all_goals (try infer_instance)) | (apply WL.opN; (focus ((first | (apply SY.mkV0 vxT; exact OpD.t rfl) | ((first | apply SY.move | apply SY.assign | apply SY.lss) <;> (exact oD)) | ((first | apply SY.add) <;> first | exact oD | omega) | (apply SY.ix; (exact eD); (exact oD); (exact oD); exact kD) | fail); all_goals infer_instance)); dsimp only [setD, z0, z1]) | (apply WC.condD; (exact oD); all_goals (intro h; try exact xD)) | refine WC.skip ?_ | refine WC.block ?_ | refine ThenD.n ?_)); all_goals (first | ((repeat clear hK); (repeat clear Kx))))
      all_goals first | (exfalso; omega) | skip
      rename_i v'
      (refine ⟨(k + 1, v', o ++ [(cs[k], 0)]), ?_, by first | omega | (simp only; omega), rfl, ?_⟩; rotate_left; ((try dsimp only [upds, z0, z1]); repeat (first | exact LeF.nil | refine LeF.co (k := ?_))); (try dsimp only))
      exact ⟨by show k + 1 ≤ _; omega, by show o ++ _ = _; rw [take_snoc' hk, List.map_append, h2]; rfl⟩
    · rw [List.take_of_length_le (by omega)] at h2
      subst h2
      ((repeat' (first | (apply WL.opN; exact yF; dsimp only [setD, z0, z1]) | refine WL.nil ?_ | refine WC.seqK fun Kx hK => ?_ | (refine hK _ _ ?_; clear hK) | (refine Kont.skip ?_; clear hK) | refine WC.region ?_ | (apply WL.opN; (focus ((first | ((first | apply SY.move | apply SY.assign | apply SY.lss) <;> (exact oD)) | fail); all_goals infer_instance)); dsimp only [setD, z0, z1]) | (apply WC.condD; (exact oD); all_goals (intro h; try exact xD)) | refine WC.ret ?_ | refine WC.exit ?_)); all_goals (first | ((repeat clear hK); (repeat clear Kx))))
      all_goals first | (exfalso; omega) | skip
      (refine ⟨trivial, _, rfl, ?_⟩; exact fD)
abbrev wa : Vx := (0, 0)
abbrev wb : Vx := (1, 0)
abbrev wc : Vx := (2, 0)
abbrev wd : Vx := (3, 0)
abbrev exK : Cx := [[wa, wb, wc], [wc, wd]]
abbrev exW : List Cl := [([wa, wb], [wa, wb, wc]), ([wa], [wa, wc]), ([wb], [wb, wc]), ([wc], [wc, wd])]
abbrev exA : List Cl := [([wa, wb], [wa, wb, wc]), ([wa, wc], [wa, wb, wc]), ([wb, wc], [wa, wb, wc]), ([wd], [wc, wd])]
theorem k_chk : chkC exK = 0 := by decide
theorem k_free : freeK exK = (exA, 0) := by decide
theorem k_step : stepK exK ([wa, wb], [wa, wb, wc]) = ([[wa, wc], [wb, wc], [wc, wd]], 0) := by decide
theorem k_whole : wholeN exK 8 = 9 := by decide
theorem k_redC : redC 5 exK = ([[wd]], exW) := by decide
theorem k_circ : pairsC [[wa, wb], [wa, wc], [wb, wc]] = [] := by decide
theorem redC_stop : ∀ (n m : Nat) (l : Cx), pairsC (redC n l).1 = [] → redC (n + m) l = redC n l
  | 0, m, l, h => by
    have h' : pairsC l = [] := h
    rw [redC_nil h', redC_nil h']
  | n + 1, m, l, h => by
    cases hp : pairsC l with
    | nil => rw [redC_nil hp, redC_nil hp]
    | cons x t =>
      rw [redC_cons hp] at h ⊢
      rw [show n + 1 + m = (n + m) + 1 by omega, redC_cons hp, redC_stop n m _ h]
theorem k_red : redK exK = ([[wd]], exW, 0) := by
  have h : reducedC exK = ([[wd]], exW) := by
    show redC (5 + 4091) exK = _
    rw [redC_stop 5 4091 exK (by rw [k_redC]; decide), k_redC]
  unfold redK
  rw [k_chk, k_whole, h]
  rfl
theorem k_coll : collK exK = (1, exW, 0) := by
  unfold collK
  rw [k_red]
  rfl
theorem k_red2 : redK [[wa, wb], [wa, wc], [wb, wc]] = ([[wa, wb], [wa, wc], [wb, wc]], [], 0) := by
  have h : reducedC [[wa, wb], [wa, wc], [wb, wc]] = ([[wa, wb], [wa, wc], [wb, wc]], []) := redC_nil k_circ 4096
  unfold redK
  rw [h, if_neg (by decide), if_neg (by decide)]
theorem k_coll2 : collK [[wa, wb], [wa, wc], [wb, wc]] = (2, [], 0) := by
  unfold collK
  rw [k_red2, if_neg (by decide), if_neg (by decide), if_pos (.inr (by decide))]
theorem k_ver : verK exK exW [[wd]] = 0 := by decide
set_option maxHeartbeats 32000000 in
theorem awake32_p : Fn Tryz.prog 12 [] (dB true) := by
  have c1 := free32_p exK
  rw [k_free] at c1
  have c2 := step32_p exK ([wa, wb], [wa, wb, wc]) fun _ => by rw [k_whole]; decide
  rw [k_step] at c2
  have c3 := reduce32_p exK
  rw [k_red] at c3
  have c4 := coll32_p exK
  rw [k_coll] at c4
  have c5 := coll32_p [[wa, wb], [wa, wc], [wb, wc]]
  rw [k_coll2] at c5
  have c6 := verify32_p exK exW [[wd]] fun _ => by rw [k_whole]; decide
  rw [k_ver] at c6
  have s012 : Fn Tryz.prog 41 [dS Ints [0, 1, 2]] (dS Verts [wa, wb, wc]) := simplex32_p [0, 1, 2] (by decide)
  have s01 : Fn Tryz.prog 41 [dS Ints [0, 1]] (dS Verts [wa, wb]) := simplex32_p [0, 1] (by decide)
  have s02 : Fn Tryz.prog 41 [dS Ints [0, 2]] (dS Verts [wa, wc]) := simplex32_p [0, 2] (by decide)
  have s12 : Fn Tryz.prog 41 [dS Ints [1, 2]] (dS Verts [wb, wc]) := simplex32_p [1, 2] (by decide)
  have s23 : Fn Tryz.prog 41 [dS Ints [2, 3]] (dS Verts [wc, wd]) := simplex32_p [2, 3] (by decide)
  have s0 : Fn Tryz.prog 41 [dS Ints [0]] (dS Verts [wa]) := simplex32_p [0] (by decide)
  have s1 : Fn Tryz.prog 41 [dS Ints [1]] (dS Verts [wb]) := simplex32_p [1] (by decide)
  have s2 : Fn Tryz.prog 41 [dS Ints [2]] (dS Verts [wc]) := simplex32_p [2] (by decide)
  have s3 : Fn Tryz.prog 41 [dS Ints [3]] (dS Verts [wd]) := simplex32_p [3] (by decide)
  have p : ∀ a b : List Vx, Fn Tryz.prog 42 [dS Verts a, dS Verts b] (dS Col (a, b)) := pair32_p
  have q : ∀ l : List Cl, Fn Tryz.prog 15 [dS Cols l, dS Cols l] (dB true) := fun l => by
    have := sameKs_c l l
    rwa [decide_eq_true rfl] at this
  have q2 := sameC_self
  refine Fn.intro1 Tryz.func12 rfl rfl ?_
  show WC _ _ _ (List.replicate 170 (dX undef)) []
  simp only [List.replicate_succ, List.replicate_zero]
  ((repeat' (first |  (refine WC.drawM (fun _ => True) 12 1 [(0, false), (1, false), (2, false), (3, false), (4, false), (5, false), (6, false), (7, false), (8, false), (9, false), (10, true), (11, true)] [true, true, true, true, true, true, true, true, true, true, true, true, false] (by kernel_rfl) (by kernel_rfl) (by kernel_rfl) rfl (trivial) ?_) |  (first | refine WA.one (S := [true, true, true, true, true, true, true, true, true, true, true, true, false]) (i := 12) (by kernel_rfl) rfl ?_ | refine WA.nil (S := [true, true, true, true, true, true, true, true, true, true, true, true, true]) (by kernel_rfl) ?_) |  (refine WM.writeL rfl (SW.alloc tzC (shape_C0 rfl)) (fun _ => trivial) fun b4 => ?_; dsimp only [setD, z0, z1, List.cons_append, List.nil_append]) |  (refine WM.writeL rfl (SW.storeK tyC (OpD.t rfl) (OpD.t rfl) shape_C) (fun _ => trivial) fun _ => ?_; dsimp only [setD, z0, z1, List.cons_append, List.nil_append]) |  (refine WC.freezeC (t := 4) rfl ?_; dsimp only [z0, z1]) | (refine WM.nil ?_) | (apply WM.readL rfl; (focus (intro c hcc; apply SYG.yes; (exact want_none rfl); ((first | (apply SY.call (s012) Tryz.call41; exact ArgsD.cons (OpD.t rfl) (ArgsD.nil)) | (apply SY.call (s01) Tryz.call41; exact ArgsD.cons (OpD.t rfl) (ArgsD.nil)) | (apply SY.call (s02) Tryz.call41; exact ArgsD.cons (OpD.t rfl) (ArgsD.nil)) | (apply SY.call (s12) Tryz.call41; exact ArgsD.cons (OpD.t rfl) (ArgsD.nil)) | (apply SY.call (s23) Tryz.call41; exact ArgsD.cons (OpD.t rfl) (ArgsD.nil)) | (apply SY.call (s0) Tryz.call41; exact ArgsD.cons (OpD.t rfl) (ArgsD.nil)) | (apply SY.call (s1) Tryz.call41; exact ArgsD.cons (OpD.t rfl) (ArgsD.nil)) | (apply SY.call (s2) Tryz.call41; exact ArgsD.cons (OpD.t rfl) (ArgsD.nil)) | (apply SY.call (s3) Tryz.call41; exact ArgsD.cons (OpD.t rfl) (ArgsD.nil)) | (apply SY.call (p _ _) Tryz.call42; exact ArgsD.cons (OpD.t rfl) (ArgsD.cons (OpD.t rfl) (ArgsD.nil))) | (apply SY.call (c2) Tryz.call17; exact ArgsD.cons (OpD.t rfl) (ArgsD.cons (OpD.t rfl) (ArgsD.nil))) | ((first | apply SY.move | apply SY.assign | apply SY.eql | apply SY.neq) <;> (exact oD)) | (apply SY.load; (exact tD); (exact oD)) | (apply SY.build1'; (exact eD); ((try simp only [List.map_cons, List.map_nil]); (repeat (first | exact ElsD.nl | (apply ElsD.cn; (first | exact OpD.t rfl | exact OpD.i | exact OpD.b | exact OpD.tle rfl (by first | exact Dat.le_nil | exact Dat.le_nilK (by decide)) | exact ⟨Dat.le_nil⟩ | exact ⟨Dat.le_nilK (by decide)⟩))))); rfl; rfl; (intro _; first | exact shape_K | exact shape_I | exact shape_A | exact shape_B); (exact (by simp))) | (apply SY.extract; (exact oD); rfl) | fail); all_goals infer_instance))); dsimp only [setD, z0, z1]) | ((first | apply WL.opN | apply WD.opN); exact yF; dsimp only [setD, z0, z1]) | refine WL.nil ?_ | refine WD.nil ?_ | refine WC.seqK fun Kx hK => ?_ | (refine hK _ _ ?_; clear hK) | refine WC.region ?_ | (apply WC.draw; kernel_rfl; kernel_rfl) | (apply WL.alloc; (first | exact tzV | exact tzC); (first | exact shape_X rfl | exact shape_XV | exact shape_C0 rfl); (intro _; dsimp only [setD, z0, z1])) | (apply WL.storeF; (exact tD); rfl; (exact oD); (exact hD); dsimp only [setD, z0, z1]) | ((first | apply WL.opG | apply WD.op); (focus (first | exact wN | (apply SYG.yes; (exact wY); ((first | (apply SY.call (s012) Tryz.call41; exact ArgsD.cons (OpD.t rfl) (ArgsD.nil)) | (apply SY.call (s01) Tryz.call41; exact ArgsD.cons (OpD.t rfl) (ArgsD.nil)) | (apply SY.call (s02) Tryz.call41; exact ArgsD.cons (OpD.t rfl) (ArgsD.nil)) | (apply SY.call (s12) Tryz.call41; exact ArgsD.cons (OpD.t rfl) (ArgsD.nil)) | (apply SY.call (s23) Tryz.call41; exact ArgsD.cons (OpD.t rfl) (ArgsD.nil)) | (apply SY.call (s0) Tryz.call41; exact ArgsD.cons (OpD.t rfl) (ArgsD.nil)) | (apply SY.call (s1) Tryz.call41; exact ArgsD.cons (OpD.t rfl) (ArgsD.nil)) | (apply SY.call (s2) Tryz.call41; exact ArgsD.cons (OpD.t rfl) (ArgsD.nil)) | (apply SY.call (s3) Tryz.call41; exact ArgsD.cons (OpD.t rfl) (ArgsD.nil)) | (apply SY.call (p _ _) Tryz.call42; exact ArgsD.cons (OpD.t rfl) (ArgsD.cons (OpD.t rfl) (ArgsD.nil))) | (apply SY.call (c1) Tryz.call13; exact ArgsD.cons (OpD.t rfl) (ArgsD.nil)) | (apply SY.call (c3) Tryz.call20; exact ArgsD.cons (OpD.t rfl) (ArgsD.nil)) | (apply SY.call (c4) Tryz.call22; exact ArgsD.cons (OpD.t rfl) (ArgsD.nil)) | (apply SY.call (c5) Tryz.call22; exact ArgsD.cons (OpD.t rfl) (ArgsD.nil)) | (apply SY.call (c6) Tryz.call27; exact ArgsD.cons (OpD.t rfl) (ArgsD.cons (OpD.t rfl) (ArgsD.cons (OpD.t rfl) (ArgsD.nil)))) | (apply SY.call (q _) Tryz.call15; exact ArgsD.cons (OpD.t rfl) (ArgsD.cons (OpD.t rfl) (ArgsD.nil))) | (apply SY.call (q2 _) Tryz.call19; exact ArgsD.cons (OpD.t rfl) (ArgsD.cons (OpD.t rfl) (ArgsD.nil))) | ((first | apply SY.move | apply SY.assign | apply SY.eql | apply SY.neq) <;> (exact oD)) | ((first | apply SY.add) <;> first | exact oD | omega) | (apply SY.load; (exact tD); (exact oD)) | (apply SY.len; (exact oD); (exact nD); (exact uD)) | (apply SY.mkC cpxT; exact OpD.t rfl) | (apply SY.build1'; (exact eD); ((try simp only [List.map_cons, List.map_nil]); (repeat (first | exact ElsD.nl | (apply ElsD.cn; (first | exact OpD.t rfl | exact OpD.i | exact OpD.b | exact OpD.tle rfl (by first | exact Dat.le_nil | exact Dat.le_nilK (by decide)) | exact ⟨Dat.le_nil⟩ | exact ⟨Dat.le_nilK (by decide)⟩))))); rfl; rfl; (intro _; first | exact shape_K | exact shape_I | exact shape_A | exact shape_B); (exact (by simp))) | (apply SY.buildE; (exact eD); ((try simp only [List.map_cons, List.map_nil]); (repeat (first | exact ElsD.nl | (apply ElsD.cn; (first | exact OpD.t rfl | exact OpD.i | exact OpD.b | exact OpD.tle rfl (by first | exact Dat.le_nil | exact Dat.le_nilK (by decide)) | exact ⟨Dat.le_nil⟩ | exact ⟨Dat.le_nilK (by decide)⟩))))); rfl; rfl; decide; (intro _; exact shape_P); (exact (by simp))) | (apply SY.pickT; (exact oD); (with_reducible rfl); (exact oD)) | (apply SY.pickF; (exact oD); (with_reducible rfl); (exact oD)) | (apply SY.extract; (exact oD); rfl) | fail); all_goals infer_instance)))); dsimp only [setD, z0, z1]) | ((first | refine WL.caseP rfl rfl rfl (fun h => ?_) (fun h => ?_) | refine WL.caseN rfl rfl rfl (fun h => ?_) (fun h => ?_) | refine WL.caseB rfl rfl rfl (fun h => ?_) (fun h => ?_) | refine WD.caseP rfl rfl rfl (fun h => ?_) (fun h => ?_) | refine WD.caseN rfl rfl rfl (fun h => ?_) (fun h => ?_) | refine WD.caseB rfl rfl rfl (fun h => ?_) (fun h => ?_)) <;> (first | (exfalso; first | omega | contradiction) | (dsimp only [z0, z1]))) | (apply WC.condN; (exact oD); all_goals (intro h; try exact xD)) | refine WC.skip ?_ | refine WC.ret ?_)); all_goals (first | ((repeat clear hK); (repeat clear Kx))))
  (refine ⟨trivial, _, rfl, ?_⟩; exact fD)
end Go.Proofs.YtjbepoofigokjaaGreat
namespace Go.Proofs.YtjbepoofigokjaaGreat
open Go.RowKit
set_option linter.unusedSimpArgs false

set_option maxHeartbeats 2000000
set_option maxRecDepth 100000
theorem sameK_self (l : List Cl) : Fn Tryz.prog 15 [dS Cols l, dS Cols l] (dB true) := by
  have := sameKs_c l l
  rwa [decide_eq_true rfl] at this
set_option maxHeartbeats 8000000 in
theorem frees32_p (l : Cx) : Fn Tryz.prog 3 [dS Cpx l] (dB true) := by
  (refine Fn.intro1 Tryz.func3 rfl rfl ?_; simp only [Tryz.ntmps3, List.length_cons, List.length_nil, Nat.reduceAdd, Nat.reduceSub, List.replicate_succ, List.replicate_zero, List.cons_append, List.nil_append])
  have c0 := few32_c l
  cases hf : few32 l with
  | false =>
    rw [hf] at c0
    ((repeat' (first | (apply WL.opN; exact yF; dsimp only [setD, z0, z1]) | refine WL.nil ?_ | refine WC.seqK fun Kx hK => ?_ | (refine hK _ _ ?_; clear hK) | refine WC.region ?_ | (apply WL.opG; (focus (first | exact wN | (apply SYG.yes; (exact wY); ((first | (apply SY.call (c0) Tryz.call11; (exact aD)) | (apply SY.call (awake32_p) Tryz.call12; (exact aD)) | ((first | apply SY.move | apply SY.assign | apply SY.eql | apply SY.not) <;> (exact oD)) | (apply SY.box; (exact oD); (exact hD)) | fail); all_goals infer_instance)))); dsimp only [setD, z0, z1]) | (apply WC.condNB; (exact oD); all_goals (intro h; try exact xD)) | refine WC.ret ?_ | refine ThenD.r ?_)); all_goals (first | ((repeat clear hK); (repeat clear Kx))))
    all_goals first | (exfalso; omega) | (refine ⟨trivial, _, rfl, ?_⟩; exact fD)
  | true =>
    rw [hf] at c0
    have c1 := free32_p l
    have c2 := free32_c l
    generalize freeK l = R at *
    ((repeat' (first | (apply WL.opN; exact yF; dsimp only [setD, z0, z1]) | refine WL.nil ?_ | refine WC.seqK fun Kx hK => ?_ | (refine hK _ _ ?_; clear hK) | refine WC.region ?_ | (apply WL.opG; (focus (first | exact wN | (apply SYG.yes; (exact wY); ((first | (apply SY.call (c0) Tryz.call11; (exact aD)) | (apply SY.call (c1) Tryz.call13; (exact aD)) | (apply SY.call (c2) Tryz.call14; (exact aD)) | (apply SY.call (sameK_self _) Tryz.call15; (exact aD)) | (apply SY.call (awake32_p) Tryz.call12; (exact aD)) | ((first | apply SY.move | apply SY.assign | apply SY.eql | apply SY.not) <;> (exact oD)) | (apply SY.pickT; (exact oD); (with_reducible rfl); (exact oD)) | (apply SY.extract; (exact oD); rfl) | (apply SY.box; (exact oD); (exact hD)) | fail); all_goals infer_instance)))); dsimp only [setD, z0, z1]) | ((first | refine WL.caseP rfl rfl rfl (fun h => ?_) (fun h => ?_) | refine WL.caseN rfl rfl rfl (fun h => ?_) (fun h => ?_) | refine WL.caseB rfl rfl rfl (fun h => ?_) (fun h => ?_)) <;> (first | (exfalso; first | omega | contradiction) | (dsimp only [z0, z1]))) | (apply WC.condNB; (exact oD); all_goals (intro h; try exact xD)) | refine WC.skip ?_ | refine WC.ret ?_)); all_goals (first | ((repeat clear hK); (repeat clear Kx))))
    all_goals first | (exfalso; omega) | (refine ⟨trivial, _, rfl, ?_⟩; exact fD)
set_option maxHeartbeats 8000000 in
theorem steps32_p (l : Cx) (x : Cl) : Fn Tryz.prog 4 [dS Cpx l, dS Col x] (dB true) := by
  (refine Fn.intro1 Tryz.func4 rfl rfl ?_; simp only [Tryz.ntmps4, List.length_cons, List.length_nil, Nat.reduceAdd, Nat.reduceSub, List.replicate_succ, List.replicate_zero, List.cons_append, List.nil_append])
  have c0 := few32_c l
  have f1 := few_c x.1
  have f2 := few_c x.2
  cases hf : few32 l with
  | false =>
    rw [hf] at c0
    ((repeat' (first | (apply WL.opN; exact yF; dsimp only [setD, z0, z1]) | refine WL.nil ?_ | refine WC.seqK fun Kx hK => ?_ | (refine hK _ _ ?_; clear hK) | refine WC.region ?_ | (apply WL.opG; (focus (first | exact wN | (apply SYG.yes; (exact wY); ((first | (apply SY.call (c0) Tryz.call11; (exact aD)) | (apply SY.call (awake32_p) Tryz.call12; (exact aD)) | ((first | apply SY.move | apply SY.assign | apply SY.eql | apply SY.not) <;> (exact oD)) | (apply SY.pickT; (exact oD); (with_reducible rfl); (exact oD)) | (apply SY.box; (exact oD); (exact hD)) | fail); all_goals infer_instance)))); dsimp only [setD, z0, z1]) | ((first | refine WL.caseP rfl rfl rfl (fun h => ?_) (fun h => ?_) | refine WL.caseN rfl rfl rfl (fun h => ?_) (fun h => ?_) | refine WL.caseB rfl rfl rfl (fun h => ?_) (fun h => ?_)) <;> (first | (exfalso; first | omega | contradiction) | (dsimp only [z0, z1]))) | (apply WC.condT; (exact oD); (with_reducible rfl)) | refine WC.ret ?_ | refine ThenD.r ?_)); all_goals (first | ((repeat clear hK); (repeat clear Kx))))
    all_goals first | (exfalso; omega) | (refine ⟨trivial, _, rfl, ?_⟩; exact fD)
  | true =>
    rw [hf] at c0
    have c1 := step32_p l x fun h => by have := few_sizes hf h; omega
    have c2 := step32_c l x
    generalize stepK l x = R at *
    ((repeat' (first | (apply WL.opN; exact yF; dsimp only [setD, z0, z1]) | refine WL.nil ?_ | refine WC.seqK fun Kx hK => ?_ | (refine hK _ _ ?_; clear hK) | refine WC.region ?_ | (apply WL.alloc; (first | exact tzV | exact tzC); (first | exact shape_X rfl | exact shape_XV | exact shape_C0 rfl); (intro _; dsimp only [setD, z0, z1])) | (apply WL.storeF; (exact tD); rfl; (exact oD); (exact hD); dsimp only [setD, z0, z1]) | (apply WL.opG; (focus (first | exact wN | (apply SYG.yes; (exact wY); ((first | (apply SY.call (c0) Tryz.call11; (exact aD)) | (apply SY.call (f1) Tryz.call16; exact ArgsD.cons (OpD.t rfl) (ArgsD.nil)) | (apply SY.call (f2) Tryz.call16; exact ArgsD.cons (OpD.t rfl) (ArgsD.nil)) | (apply SY.call (c1) Tryz.call17; (exact aD)) | (apply SY.call (c2) Tryz.call18; (exact aD)) | (apply SY.call (sameC_self _) Tryz.call19; (exact aD)) | (apply SY.call (awake32_p) Tryz.call12; (exact aD)) | ((first | apply SY.move | apply SY.assign | apply SY.eql | apply SY.not) <;> (exact oD)) | (apply SY.load; (exact tD); (exact oD)) | (apply SY.fldP0 colT; exact OpD.t rfl) | (apply SY.fldP1 colT; exact OpD.t rfl) | (apply SY.pickT; (exact oD); (with_reducible rfl); (exact oD)) | (apply SY.pickF; (exact oD); (with_reducible rfl); (exact oD)) | (apply SY.extract; (exact oD); rfl) | (apply SY.box; (exact oD); (exact hD)) | fail); all_goals infer_instance)))); dsimp only [setD, z0, z1]) | ((first | refine WL.caseP rfl rfl rfl (fun h => ?_) (fun h => ?_) | refine WL.caseN rfl rfl rfl (fun h => ?_) (fun h => ?_) | refine WL.caseB rfl rfl rfl (fun h => ?_) (fun h => ?_)) <;> (first | (exfalso; first | omega | contradiction) | (dsimp only [z0, z1]))) | (apply WC.condT; (exact oD); (with_reducible rfl)) | (apply WC.condN; (exact oD); all_goals (intro h; try exact xD)) | refine WC.skip ?_ | refine WC.ret ?_ | refine ThenD.r ?_)); all_goals (first | ((repeat clear hK); (repeat clear Kx))))
    all_goals first | (exfalso; omega) | (refine ⟨trivial, _, rfl, ?_⟩; exact fD)
end Go.Proofs.YtjbepoofigokjaaGreat
namespace Go.Proofs.YtjbepoofigokjaaGreat
open Go.RowKit
set_option linter.unusedSimpArgs false

set_option maxHeartbeats 2000000
set_option maxRecDepth 100000
abbrev dPredK (p : Cl → Bool) : Dat := dFun Tryz.prog (fun x : Cl => [dS Col x]) (fun x => dB (p x))
theorem idxK_p (l : List Cl) (p : Cl → Bool) : Fn Tryz.prog 63 [dS Cols l, dPredK p] (dI (idxG p 0 l)) := by
  (refine Fn.intro1 Tryz.func63 rfl rfl ?_; simp only [Tryz.ntmps63, List.length_cons, List.length_nil, Nat.reduceAdd, Nat.reduceSub, List.replicate_succ, List.replicate_zero, List.cons_append, List.nil_append])
  (repeat' (first | (apply WL.opN; exact yF; dsimp only [setD, z0, z1]) | refine WL.nil ?_ | refine WC.seqK fun Kx hK => ?_ | (refine hK _ _ ?_; clear hK) | refine WC.region ?_ | (apply WL.opN; (focus ((first | (apply SY.len; (exact oD); (exact nD); (exact uD)) | fail); all_goals infer_instance)); dsimp only [setD, z0, z1]) | refine WC.block ?_))
  (first | refine WC.know (t := 0) rfl le_K fun hl0 => ?_ | refine WC.know (t := 0) rfl le_A fun hl0 => ?_ | refine WC.know (t := 0) rfl le_C fun hl0 => ?_); simp only [maxLen] at hl0
  (refine WC.loopU (X := Nat) (fun k => [(8, dI (k : Int)), (4, dA), (5, dA), (9, dA), (10, dA), (11, dA), (12, dA), (13, dA), (14, dA), (15, dA), (16, dA), (17, dA), (18, dA)]) (fun k => []) (fun k => l.length - k) (fun k => k ≤ l.length ∧ idxG p 0 l = idxG p k (l.drop k)) 0 ?start ?frame0 ?objs0 ?round)
  case start => exact ⟨Nat.zero_le _, rfl⟩
  case frame0 => ((try dsimp only [upds, z0, z1]); repeat (first | exact LeF.nil | refine LeF.co (k := ?_)))
  case objs0 => rfl
  case round =>
    rintro k ⟨h1, h2⟩
    dsimp only [upds, z0, z1]
    ((repeat' (first | (apply WL.opN; exact yF; dsimp only [setD, z0, z1]) | refine WL.nil ?_ | refine WC.seqK fun Kx hK => ?_ | (refine hK _ _ ?_; clear hK) | (refine Kont.skip ?_; clear hK) | refine WC.region ?_ | (apply WL.opN; (focus ((first | (apply SY.dynF (x := l[k]); (exact OpD.t rfl); (exact aD)) | ((first | apply SY.move | apply SY.assign | apply SY.lss) <;> (exact oD)) | ((first | apply SY.add) <;> first | exact oD | omega) | (apply SY.ixK; (exact eD); (exact oD); (exact oD); exact kD) | fail); all_goals infer_instance)); dsimp only [setD, z0, z1]) | (apply WC.condD; (exact oD); all_goals (intro h; try exact xD)) | (apply WC.cond; (exact oD); all_goals (intro h; try exact xD)) | refine WC.skip ?_ | refine WC.ret ?_ | refine WC.exit ?_ | refine WC.block ?_ | refine ThenD.n ?_ | refine ThenD.r ?_ | refine InBlockD.r ?_)); all_goals (first | ((repeat clear hK); (repeat clear Kx))))
    · (refine ⟨trivial, _, rfl, ?_⟩; refine FinD.i ?_)
      rw [h2, idxG_drop (by omega), if_pos h]
    · (refine ⟨k + 1, ?_, by first | omega | (simp only; omega), rfl, ?_⟩; rotate_left; ((try dsimp only [upds, z0, z1]); repeat (first | exact LeF.nil | refine LeF.co (k := ?_))); (try dsimp only))
      exact ⟨by omega, by rw [h2, idxG_drop (by omega), if_neg (by simp [h])]⟩
    · (refine ⟨trivial, _, rfl, ?_⟩; refine FinD.i ?_)
      rw [h2, List.drop_of_length_le (by omega)]; rfl
theorem cntK_p (l : List Cl) (p : Cl → Bool) : Fn Tryz.prog 25 [dS Cols l, dPredK p] (dB (l.any p)) := by
  (refine Fn.intro1 Tryz.func25 rfl rfl ?_; simp only [Tryz.ntmps25, List.length_cons, List.length_nil, Nat.reduceAdd, Nat.reduceSub, List.replicate_succ, List.replicate_zero, List.cons_append, List.nil_append])
  ((repeat' (first | (apply WL.opN; exact yF; dsimp only [setD, z0, z1]) | refine WL.nil ?_ | refine WC.seqK fun Kx hK => ?_ | (refine hK _ _ ?_; clear hK) | refine WC.region ?_ | (apply WL.opN; (focus ((first | (apply SY.call (idxK_p _ _) Tryz.call63; (exact aD)) | ((first | apply SY.move | apply SY.assign | apply SY.geq) <;> (exact oD)) | fail); all_goals infer_instance)); dsimp only [setD, z0, z1]) | refine WC.ret ?_)); all_goals (first | ((repeat clear hK); (repeat clear Kx))))
  all_goals ((refine ⟨trivial, _, rfl, ?_⟩; refine FinD.b ?_); exact idxG_iff _ _)
def bigK (x : Cl) : Bool := !decide ((x.1.length : Int) ≤ 10) || !decide ((x.2.length : Int) ≤ 10)
theorem ver1_p (x : Cl) : Fn Tryz.prog 26 [dS Col x] (dB (bigK x)) := by
  (refine Fn.intro1 Tryz.func26 rfl rfl ?_; simp only [Tryz.ntmps26, List.length_cons, List.length_nil, Nat.reduceAdd, Nat.reduceSub, List.replicate_succ, List.replicate_zero, List.cons_append, List.nil_append])
  have f1 := few_c x.1
  have f2 := few_c x.2
  unfold bigK
  by_cases h1 : (x.1.length : Int) ≤ 10
  · rw [decide_eq_true h1] at f1 ⊢
    ((repeat' (first | (apply WL.opN; exact yF; dsimp only [setD, z0, z1]) | refine WL.nil ?_ | refine WC.seqK fun Kx hK => ?_ | (refine hK _ _ ?_; clear hK) | refine WC.region ?_ | (apply WL.opG; (focus (first | exact wN | (apply SYG.yes; (exact wY); ((first | (apply SY.call (f1) Tryz.call16; exact ArgsD.cons (OpD.t rfl) (ArgsD.nil)) | (apply SY.call (f2) Tryz.call16; exact ArgsD.cons (OpD.t rfl) (ArgsD.nil)) | ((first | apply SY.move | apply SY.assign | apply SY.not) <;> (exact oD)) | (apply SY.load; (exact tD); (exact oD)) | (apply SY.fldP0 colT; exact OpD.t rfl) | (apply SY.fldP1 colT; exact OpD.t rfl) | (apply SY.pickF; (exact oD); (with_reducible rfl); (exact oD)) | (apply SY.box; (exact oD); (exact hD)) | fail); all_goals infer_instance)))); dsimp only [setD, z0, z1]) | ((first | refine WL.caseP rfl rfl rfl (fun h => ?_) (fun h => ?_) | refine WL.caseN rfl rfl rfl (fun h => ?_) (fun h => ?_) | refine WL.caseB rfl rfl rfl (fun h => ?_) (fun h => ?_)) <;> (first | (exfalso; first | omega | contradiction) | (dsimp only [z0, z1]))) | refine WC.ret ?_)); all_goals (first | ((repeat clear hK); (repeat clear Kx))))
    all_goals first | (exfalso; omega) | ((refine ⟨trivial, _, rfl, ?_⟩; exact fD); try simp)
  · rw [decide_eq_false h1] at f1 ⊢
    ((repeat' (first | (apply WL.opN; exact yF; dsimp only [setD, z0, z1]) | refine WL.nil ?_ | refine WC.seqK fun Kx hK => ?_ | (refine hK _ _ ?_; clear hK) | refine WC.region ?_ | (apply WL.opG; (focus (first | exact wN | (apply SYG.yes; (exact wY); ((first | (apply SY.call (f1) Tryz.call16; exact ArgsD.cons (OpD.t rfl) (ArgsD.nil)) | (apply SY.call (f2) Tryz.call16; exact ArgsD.cons (OpD.t rfl) (ArgsD.nil)) | ((first | apply SY.move | apply SY.assign | apply SY.not) <;> (exact oD)) | (apply SY.fldP0 colT; exact OpD.t rfl) | (apply SY.fldP1 colT; exact OpD.t rfl) | (apply SY.pickT; (exact oD); (with_reducible rfl); (exact oD)) | (apply SY.box; (exact oD); (exact hD)) | fail); all_goals infer_instance)))); dsimp only [setD, z0, z1]) | ((first | refine WL.caseP rfl rfl rfl (fun h => ?_) (fun h => ?_) | refine WL.caseN rfl rfl rfl (fun h => ?_) (fun h => ?_) | refine WL.caseB rfl rfl rfl (fun h => ?_) (fun h => ?_)) <;> (first | (exfalso; first | omega | contradiction) | (dsimp only [z0, z1]))) | refine WC.ret ?_)); all_goals (first | ((repeat clear hK); (repeat clear Kx))))
    all_goals first | (exfalso; omega) | ((refine ⟨trivial, _, rfl, ?_⟩; exact fD); try simp)
set_option maxHeartbeats 8000000 in
theorem verifies32_p (l : Cx) (m : List Cl) (d : Cx) : Fn Tryz.prog 6 [dS Cpx l, dS Cols m, dS Cpx d] (dB true) := by
  (refine Fn.intro1 Tryz.func6 rfl rfl ?_; simp only [Tryz.ntmps6, List.length_cons, List.length_nil, Nat.reduceAdd, Nat.reduceSub, List.replicate_succ, List.replicate_zero, List.cons_append, List.nil_append])
  have c0 := few32_c l
  have f1 := fewC_c d
  have f2 := cntK_p m bigK
  generalize m.any bigK = MB at *
  cases hf : few32 l with
  | false =>
    rw [hf] at c0
    ((repeat' (first | ((first | apply WL.opN | apply WD.opN); exact yF; dsimp only [setD, z0, z1]) | refine WL.nil ?_ | refine WC.seqK fun Kx hK => ?_ | (refine hK _ _ ?_; clear hK) | refine WC.region ?_ | ((first | apply WL.opG | apply WD.op); (focus (first | exact wN | (apply SYG.yes; (exact wY); ((first | (apply SY.call (c0) Tryz.call11; (exact aD)) | (apply SY.call (awake32_p) Tryz.call12; (exact aD)) | ((first | apply SY.move | apply SY.assign | apply SY.gtr | apply SY.eql | apply SY.not) <;> (exact oD)) | (apply SY.pickT; (exact oD); (with_reducible rfl); (exact oD)) | (apply SY.box; (exact oD); (exact hD)) | fail); all_goals infer_instance)))); dsimp only [setD, z0, z1]) | ((first | refine WL.caseP rfl rfl rfl (fun h => ?_) (fun h => ?_) | refine WL.caseN rfl rfl rfl (fun h => ?_) (fun h => ?_) | refine WL.caseB rfl rfl rfl (fun h => ?_) (fun h => ?_) | refine WD.caseP rfl rfl rfl (fun h => ?_) (fun h => ?_) | refine WD.caseN rfl rfl rfl (fun h => ?_) (fun h => ?_) | refine WD.caseB rfl rfl rfl (fun h => ?_) (fun h => ?_)) <;> (first | (exfalso; first | omega | contradiction) | (dsimp only [z0, z1]))) | (apply WC.condT; (exact oD); (with_reducible rfl)) | refine WC.ret ?_ | refine ThenD.r ?_)); all_goals (first | ((repeat clear hK); (repeat clear Kx))))
    all_goals first | (exfalso; omega) | (refine ⟨trivial, _, rfl, ?_⟩; exact fD)
  | true =>
    rw [hf] at c0
    have c1 := verify32_p l m d fun h => by have := few_sizes hf h; omega
    have c2 := verify32_c l m d fun h => by have := few_sizes hf h; omega
    generalize verK l m d = R at *
    cases hg : fewAllV d with
    | false =>
      rw [hg] at f1
      ((repeat' (first | ((first | apply WL.opN | apply WD.opN); exact yF; dsimp only [setD, z0, z1]) | refine WL.nil ?_ | refine WC.seqK fun Kx hK => ?_ | (refine hK _ _ ?_; clear hK) | refine WC.region ?_ | ((first | apply WL.opG | apply WD.op); (focus (first | exact wN | (apply SYG.yes; (exact wY); ((first | (apply SY.call (c0) Tryz.call11; (exact aD)) | (apply SY.call (f1) Tryz.call24; (exact aD)) | (apply SY.call (awake32_p) Tryz.call12; (exact aD)) | ((first | apply SY.move | apply SY.assign | apply SY.gtr | apply SY.eql | apply SY.not) <;> (exact oD)) | (apply SY.load; (exact tD); (exact oD)) | (apply SY.pickT; (exact oD); (with_reducible rfl); (exact oD)) | (apply SY.pickF; (exact oD); (with_reducible rfl); (exact oD)) | (apply SY.box; (exact oD); (exact hD)) | fail); all_goals infer_instance)))); dsimp only [setD, z0, z1]) | ((first | refine WL.caseP rfl rfl rfl (fun h => ?_) (fun h => ?_) | refine WL.caseN rfl rfl rfl (fun h => ?_) (fun h => ?_) | refine WL.caseB rfl rfl rfl (fun h => ?_) (fun h => ?_) | refine WD.caseP rfl rfl rfl (fun h => ?_) (fun h => ?_) | refine WD.caseN rfl rfl rfl (fun h => ?_) (fun h => ?_) | refine WD.caseB rfl rfl rfl (fun h => ?_) (fun h => ?_)) <;> (first | (exfalso; first | omega | contradiction) | (dsimp only [z0, z1]))) | (apply WC.condT; (exact oD); (with_reducible rfl)) | refine WC.ret ?_ | refine ThenD.r ?_)); all_goals (first | ((repeat clear hK); (repeat clear Kx))))
      all_goals first | (exfalso; omega) | (refine ⟨trivial, _, rfl, ?_⟩; exact fD)
    | true =>
      rw [hg] at f1
      cases MB with
      | true =>
        ((repeat' (first | ((first | apply WL.opN | apply WD.opN); exact yF; dsimp only [setD, z0, z1]) | refine WL.nil ?_ | refine WC.seqK fun Kx hK => ?_ | (refine hK _ _ ?_; clear hK) | refine WC.region ?_ | ((first | apply WL.opG | apply WD.op); (focus (first | exact wN | (apply SYG.yes; (exact wY); ((first | (apply SY.call (c0) Tryz.call11; (exact aD)) | (apply SY.call (f1) Tryz.call24; (exact aD)) | (apply SY.call f2 Tryz.call25; exact ArgsD.cons (OpD.t rfl) (ArgsD.cons ⟨le_fun Tryz.call26 ver1_p⟩ ArgsD.nil)) | (apply SY.call (awake32_p) Tryz.call12; (exact aD)) | ((first | apply SY.move | apply SY.assign | apply SY.gtr | apply SY.eql | apply SY.not) <;> (exact oD)) | (apply SY.load; (exact tD); (exact oD)) | (apply SY.len; (exact oD); (exact nD); (exact uD)) | (apply SY.pickT; (exact oD); (with_reducible rfl); (exact oD)) | (apply SY.pickF; (exact oD); (with_reducible rfl); (exact oD)) | (apply SY.box; (exact oD); (exact hD)) | fail); all_goals infer_instance)))); dsimp only [setD, z0, z1]) | ((first | refine WL.caseP rfl rfl rfl (fun h => ?_) (fun h => ?_) | refine WL.caseN rfl rfl rfl (fun h => ?_) (fun h => ?_) | refine WL.caseB rfl rfl rfl (fun h => ?_) (fun h => ?_) | refine WD.caseP rfl rfl rfl (fun h => ?_) (fun h => ?_) | refine WD.caseN rfl rfl rfl (fun h => ?_) (fun h => ?_) | refine WD.caseB rfl rfl rfl (fun h => ?_) (fun h => ?_)) <;> (first | (exfalso; first | omega | contradiction) | (dsimp only [z0, z1]))) | (apply WC.condT; (exact oD); (with_reducible rfl)) | refine WC.ret ?_ | refine ThenD.r ?_)); all_goals (first | ((repeat clear hK); (repeat clear Kx))))
        all_goals first | (exfalso; omega) | (refine ⟨trivial, _, rfl, ?_⟩; exact fD)
      | false =>
        ((repeat' (first | ((first | apply WL.opN | apply WD.opN); exact yF; dsimp only [setD, z0, z1]) | refine WL.nil ?_ | refine WD.nil ?_ | refine WC.seqK fun Kx hK => ?_ | (refine hK _ _ ?_; clear hK) | refine WC.region ?_ | (apply WC.draw; kernel_rfl; kernel_rfl) | ((first | apply WL.opG | apply WD.op); (focus (first | exact wN | (apply SYG.yes; (exact wY); ((first | (apply SY.call (c0) Tryz.call11; (exact aD)) | (apply SY.call (f1) Tryz.call24; (exact aD)) | (apply SY.call f2 Tryz.call25; exact ArgsD.cons (OpD.t rfl) (ArgsD.cons ⟨le_fun Tryz.call26 ver1_p⟩ ArgsD.nil)) | (apply SY.call (c1) Tryz.call27; exact ArgsD.cons (OpD.t rfl) (ArgsD.cons (OpD.t rfl) (ArgsD.cons (OpD.t rfl) (ArgsD.nil)))) | (apply SY.call (c2) Tryz.call28; exact ArgsD.cons (OpD.t rfl) (ArgsD.cons (OpD.t rfl) (ArgsD.cons (OpD.t rfl) (ArgsD.nil)))) | (apply SY.call (awake32_p) Tryz.call12; (exact aD)) | ((first | apply SY.move | apply SY.assign | apply SY.gtr | apply SY.eql | apply SY.not) <;> (exact oD)) | (apply SY.load; (exact tD); (exact oD)) | (apply SY.len; (exact oD); (exact nD); (exact uD)) | (apply SY.pickT; (exact oD); (with_reducible rfl); (exact oD)) | (apply SY.pickF; (exact oD); (with_reducible rfl); (exact oD)) | (apply SY.box; (exact oD); (exact hD)) | fail); all_goals infer_instance)))); dsimp only [setD, z0, z1]) | ((first | refine WL.caseP rfl rfl rfl (fun h => ?_) (fun h => ?_) | refine WL.caseN rfl rfl rfl (fun h => ?_) (fun h => ?_) | refine WL.caseB rfl rfl rfl (fun h => ?_) (fun h => ?_) | refine WD.caseP rfl rfl rfl (fun h => ?_) (fun h => ?_) | refine WD.caseN rfl rfl rfl (fun h => ?_) (fun h => ?_) | refine WD.caseB rfl rfl rfl (fun h => ?_) (fun h => ?_)) <;> (first | (exfalso; first | omega | contradiction) | (dsimp only [z0, z1]))) | (apply WC.condT; (exact oD); (with_reducible rfl)) | (apply WC.condF; (exact oD); (with_reducible rfl)) | refine WC.skip ?_ | refine WC.ret ?_ | refine ThenD.r ?_)); all_goals (first | ((repeat clear hK); (repeat clear Kx))))
        all_goals first | (exfalso; omega) | (refine ⟨trivial, _, rfl, ?_⟩; exact fD)
end Go.Proofs.YtjbepoofigokjaaGreat
