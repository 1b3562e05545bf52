/-
  Part 40 of the texts that the claims of this seat lean on: walks of the program's functions by contracts over symbolic frames, and plain laws of what they compute. No condition.
-/
import Derived.Deep.SlicePairs
import Derived.Lib.SmallJoins
import Derived.OpenShut
import Derived.ProofKit
import Derived.Test.YtjbepoofigokjaaGreatRows
import Derived.Test.YtjbepoofigokjaaGreatVc6
import Derived.Test.YtjbepoofigokjaaGreatVc11
import Derived.Test.YtjbepoofigokjaaGreatVc24
import Derived.Test.YtjbepoofigokjaaGreatVc39
set_option linter.unusedVariables false
set_option linter.unusedSimpArgs false
set_option linter.unusedSectionVars false
namespace Go.Proofs.YtjbepoofigokjaaGreat
open Go.RowKit
set_option linter.unusedSimpArgs false

set_option maxHeartbeats 2000000
set_option maxRecDepth 100000
theorem pair32_p (a b : List Vx) : Fn Tryz.prog 42 [dS Verts a, dS Verts b] (dS Col (a, b)) := by
  refine Fn.introC1 tyCo Tryz.func42 rfl rfl ?_
  simp only [Tryz.ntmps42, List.length_cons, List.length_nil, Nat.reduceAdd, Nat.reduceSub, List.replicate_succ, List.replicate_zero, List.cons_append, List.nil_append]
  ((repeat' (first | (apply WL.opN; exact yF; dsimp only [setD, z0, z1]) | refine WL.nil ?_ | refine WC.seqK fun Kx hK => ?_ | (refine hK _ _ ?_; clear hK) | refine WC.region ?_ |  (apply WL.alloc tzCo; exact shape_Z2; (intro b4; dsimp only [setD, z0, z1])) |  (refine WL.storeF tyCo rfl (OpD.t rfl) shape_P ?_; dsimp only [setD, z0, z1]) | (apply WL.opN; (focus ((first | (apply SY.mkP colT <;> exact OpD.t rfl) | fail); all_goals infer_instance)); dsimp only [setD, z0, z1]) | refine WC.ret ?_)); all_goals (first | ((repeat clear hK); (repeat clear Kx))))
  (refine ⟨trivial, _, rfl, ?_⟩; exact fD)
theorem simplex32_p (cs : List Int) (hl : cs.length ≤ 100) : Fn Tryz.prog 41 [dS Ints cs] (dS Verts (cs.map fun c => (c, 0))) := by
  (refine Fn.intro1 Tryz.func41 rfl rfl ?_; simp only [Tryz.ntmps41, List.length_cons, List.length_nil, Nat.reduceAdd, Nat.reduceSub, List.replicate_succ, List.replicate_zero, List.cons_append, List.nil_append])
  (repeat' (first | (apply WL.opN; exact yF; dsimp only [setD, z0, z1]) | refine WL.nil ?_ | refine WC.seqK fun Kx hK => ?_ | (refine hK _ _ ?_; clear hK) | refine WC.region ?_ | (apply WL.opN; (focus ((first | (apply SY.len; (exact oD); (exact nD); (exact uD)) | fail); all_goals infer_instance)); dsimp only [setD, z0, z1]) | refine WC.block ?_))
  refine WC.nilRowK 63 2 (by decide) RV ?_
  (refine WC.loopU (X := Nat × Value × List Vx) (fun x => [(8, dI (x.1 : Int)), (3, dX x.2.1), (5, dA), (9, dA), (10, dA), (11, dA), (12, dA), (13, dA), (14, dA), (15, dA), (16, dA), (17, dA)]) (fun x => [hRowK x.2.1 63 2 RV x.2.2]) (fun x => cs.length - x.1) (fun x => x.1 ≤ cs.length ∧ x.2.2 = (cs.take x.1).map fun c => (c, 0)) (0, .slice none 0 0, []) ?start ?frame0 ?objs0 ?round)
  case start => exact ⟨Nat.zero_le _, rfl⟩
  case frame0 => ((try dsimp only [upds, z0, z1]); repeat (first | exact LeF.nil | refine LeF.co (k := ?_)))
  case objs0 => rfl
  case round =>
    rintro ⟨k, v, o⟩ ⟨h1, h2⟩
    simp only at h1 h2
    have hol : o.length ≤ 100 := by rw [h2, List.length_map, List.length_take]; omega
    dsimp only [upds, z0, z1]
    by_cases hk : k < cs.length
    · ((repeat' (first | (apply WL.opN; exact yF; dsimp only [setD, z0, z1]) | refine WL.nil ?_ | refine WC.seqK fun Kx hK => ?_ | (refine hK _ _ ?_; clear hK) | refine WC.region ?_ | ((first | apply WL.pushK | apply WL.push1); (exact eD); exact OpD.t rfl; (exact oD); (intro _; exact hD); (exact (by simp)); (exact (by simp)); (first | exact ⟨by decide, by decide⟩ | skip); decide; (exact lD); (intro _; dsimp only [setD, z0, z1]); all_goals (try infer_instance)) | (apply WL.opN; (focus ((first | (apply SY.mkV0 vxT; exact OpD.t rfl) | ((first | apply SY.move | apply SY.assign | apply SY.lss) <;> (exact oD)) | ((first | apply SY.add) <;> first | exact oD | omega) | (apply SY.ix; (exact eD); (exact oD); (exact oD); exact kD) | fail); all_goals infer_instance)); dsimp only [setD, z0, z1]) | (apply WC.condD; (exact oD); all_goals (intro h; try exact xD)) | refine WC.skip ?_ | refine WC.block ?_ | refine ThenD.n ?_)); all_goals (first | ((repeat clear hK); (repeat clear Kx))))
      all_goals first | (exfalso; omega) | skip
      rename_i v'
      (refine ⟨(k + 1, v', o ++ [(cs[k], 0)]), ?_, by first | omega | (simp only; omega), rfl, ?_⟩; rotate_left; ((try dsimp only [upds, z0, z1]); repeat (first | exact LeF.nil | refine LeF.co (k := ?_))); (try dsimp only))
      exact ⟨by show k + 1 ≤ _; omega, by show o ++ _ = _; rw [take_snoc' hk, List.map_append, h2]; rfl⟩
    · rw [List.take_of_length_le (by omega)] at h2
      subst h2
      ((repeat' (first | (apply WL.opN; exact yF; dsimp only [setD, z0, z1]) | refine WL.nil ?_ | refine WC.seqK fun Kx hK => ?_ | (refine hK _ _ ?_; clear hK) | (refine Kont.skip ?_; clear hK) | refine WC.region ?_ | (apply WL.opN; (focus ((first | ((first | apply SY.move | apply SY.assign | apply SY.lss) <;> (exact oD)) | fail); all_goals infer_instance)); dsimp only [setD, z0, z1]) | (apply WC.condD; (exact oD); all_goals (intro h; try exact xD)) | refine WC.ret ?_ | refine WC.exit ?_)); all_goals (first | ((repeat clear hK); (repeat clear Kx))))
      all_goals first | (exfalso; omega) | skip
      (refine ⟨trivial, _, rfl, ?_⟩; exact fD)
abbrev wa : Vx := (0, 0)
abbrev wb : Vx := (1, 0)
abbrev wc : Vx := (2, 0)
abbrev wd : Vx := (3, 0)
abbrev exK : Cx := [[wa, wb, wc], [wc, wd]]
abbrev exW : List Cl := [([wa, wb], [wa, wb, wc]), ([wa], [wa, wc]), ([wb], [wb, wc]), ([wc], [wc, wd])]
abbrev exA : List Cl := [([wa, wb], [wa, wb, wc]), ([wa, wc], [wa, wb, wc]), ([wb, wc], [wa, wb, wc]), ([wd], [wc, wd])]
theorem k_chk : chkC exK = 0 := by decide
theorem k_free : freeK exK = (exA, 0) := by decide
theorem k_step : stepK exK ([wa, wb], [wa, wb, wc]) = ([[wa, wc], [wb, wc], [wc, wd]], 0) := by decide
theorem k_whole : wholeN exK 8 = 9 := by decide
theorem k_redC : redC 5 exK = ([[wd]], exW) := by decide
theorem k_circ : pairsC [[wa, wb], [wa, wc], [wb, wc]] = [] := by decide
theorem redC_stop : ∀ (n m : Nat) (l : Cx), pairsC (redC n l).1 = [] → redC (n + m) l = redC n l
  | 0, m, l, h => by
    have h' : pairsC l = [] := h
    rw [redC_nil h', redC_nil h']
  | n + 1, m, l, h => by
    cases hp : pairsC l with
    | nil => rw [redC_nil hp, redC_nil hp]
    | cons x t =>
      rw [redC_cons hp] at h ⊢
      rw [show n + 1 + m = (n + m) + 1 by omega, redC_cons hp, redC_stop n m _ h]
theorem k_red : redK exK = ([[wd]], exW, 0) := by
  have h : reducedC exK = ([[wd]], exW) := by
    show redC (5 + 4091) exK = _
    rw [redC_stop 5 4091 exK (by rw [k_redC]; decide), k_redC]
  unfold redK
  rw [k_chk, k_whole, h]
  rfl
theorem k_coll : collK exK = (1, exW, 0) := by
  unfold collK
  rw [k_red]
  rfl
theorem k_red2 : redK [[wa, wb], [wa, wc], [wb, wc]] = ([[wa, wb], [wa, wc], [wb, wc]], [], 0) := by
  have h : reducedC [[wa, wb], [wa, wc], [wb, wc]] = ([[wa, wb], [wa, wc], [wb, wc]], []) := redC_nil k_circ 4096
  unfold redK
  rw [h, if_neg (by decide), if_neg (by decide)]
theorem k_coll2 : collK [[wa, wb], [wa, wc], [wb, wc]] = (2, [], 0) := by
  unfold collK
  rw [k_red2, if_neg (by decide), if_neg (by decide), if_pos (.inr (by decide))]
theorem k_ver : verK exK exW [[wd]] = 0 := by decide
set_option maxHeartbeats 32000000 in
theorem awake32_p : Fn Tryz.prog 12 [] (dB true) := by
  have c1 := free32_p exK
  rw [k_free] at c1
  have c2 := step32_p exK ([wa, wb], [wa, wb, wc]) fun _ => by rw [k_whole]; decide
  rw [k_step] at c2
  have c3 := reduce32_p exK
  rw [k_red] at c3
  have c4 := coll32_p exK
  rw [k_coll] at c4
  have c5 := coll32_p [[wa, wb], [wa, wc], [wb, wc]]
  rw [k_coll2] at c5
  have c6 := verify32_p exK exW [[wd]] fun _ => by rw [k_whole]; decide
  rw [k_ver] at c6
  have s012 : Fn Tryz.prog 41 [dS Ints [0, 1, 2]] (dS Verts [wa, wb, wc]) := simplex32_p [0, 1, 2] (by decide)
  have s01 : Fn Tryz.prog 41 [dS Ints [0, 1]] (dS Verts [wa, wb]) := simplex32_p [0, 1] (by decide)
  have s02 : Fn Tryz.prog 41 [dS Ints [0, 2]] (dS Verts [wa, wc]) := simplex32_p [0, 2] (by decide)
  have s12 : Fn Tryz.prog 41 [dS Ints [1, 2]] (dS Verts [wb, wc]) := simplex32_p [1, 2] (by decide)
  have s23 : Fn Tryz.prog 41 [dS Ints [2, 3]] (dS Verts [wc, wd]) := simplex32_p [2, 3] (by decide)
  have s0 : Fn Tryz.prog 41 [dS Ints [0]] (dS Verts [wa]) := simplex32_p [0] (by decide)
  have s1 : Fn Tryz.prog 41 [dS Ints [1]] (dS Verts [wb]) := simplex32_p [1] (by decide)
  have s2 : Fn Tryz.prog 41 [dS Ints [2]] (dS Verts [wc]) := simplex32_p [2] (by decide)
  have s3 : Fn Tryz.prog 41 [dS Ints [3]] (dS Verts [wd]) := simplex32_p [3] (by decide)
  have p : ∀ a b : List Vx, Fn Tryz.prog 42 [dS Verts a, dS Verts b] (dS Col (a, b)) := pair32_p
  have q : ∀ l : List Cl, Fn Tryz.prog 15 [dS Cols l, dS Cols l] (dB true) := fun l => by
    have := sameKs_c l l
    rwa [decide_eq_true rfl] at this
  have q2 := sameC_self
  refine Fn.intro1 Tryz.func12 rfl rfl ?_
  show WC _ _ _ (List.replicate 170 (dX undef)) []
  simp only [List.replicate_succ, List.replicate_zero]
  ((repeat' (first |  (refine WC.drawM (fun _ => True) 12 1 [(0, false), (1, false), (2, false), (3, false), (4, false), (5, false), (6, false), (7, false), (8, false), (9, false), (10, true), (11, true)] [true, true, true, true, true, true, true, true, true, true, true, true, false] (by kernel_rfl) (by kernel_rfl) (by kernel_rfl) rfl (trivial) ?_) |  (first | refine WA.one (S := [true, true, true, true, true, true, true, true, true, true, true, true, false]) (i := 12) (by kernel_rfl) rfl ?_ | refine WA.nil (S := [true, true, true, true, true, true, true, true, true, true, true, true, true]) (by kernel_rfl) ?_) |  (refine WM.writeL rfl (SW.alloc tzC (shape_C0 rfl)) (fun _ => trivial) fun b4 => ?_; dsimp only [setD, z0, z1, List.cons_append, List.nil_append]) |  (refine WM.writeL rfl (SW.storeK tyC (OpD.t rfl) (OpD.t rfl) shape_C) (fun _ => trivial) fun _ => ?_; dsimp only [setD, z0, z1, List.cons_append, List.nil_append]) |  (refine WC.freezeC (t := 4) rfl ?_; dsimp only [z0, z1]) | (refine WM.nil ?_) | (apply WM.readL rfl; (focus (intro c hcc; apply SYG.yes; (exact want_none rfl); ((first | (apply SY.call (s012) Tryz.call41; exact ArgsD.cons (OpD.t rfl) (ArgsD.nil)) | (apply SY.call (s01) Tryz.call41; exact ArgsD.cons (OpD.t rfl) (ArgsD.nil)) | (apply SY.call (s02) Tryz.call41; exact ArgsD.cons (OpD.t rfl) (ArgsD.nil)) | (apply SY.call (s12) Tryz.call41; exact ArgsD.cons (OpD.t rfl) (ArgsD.nil)) | (apply SY.call (s23) Tryz.call41; exact ArgsD.cons (OpD.t rfl) (ArgsD.nil)) | (apply SY.call (s0) Tryz.call41; exact ArgsD.cons (OpD.t rfl) (ArgsD.nil)) | (apply SY.call (s1) Tryz.call41; exact ArgsD.cons (OpD.t rfl) (ArgsD.nil)) | (apply SY.call (s2) Tryz.call41; exact ArgsD.cons (OpD.t rfl) (ArgsD.nil)) | (apply SY.call (s3) Tryz.call41; exact ArgsD.cons (OpD.t rfl) (ArgsD.nil)) | (apply SY.call (p _ _) Tryz.call42; exact ArgsD.cons (OpD.t rfl) (ArgsD.cons (OpD.t rfl) (ArgsD.nil))) | (apply SY.call (c2) Tryz.call17; exact ArgsD.cons (OpD.t rfl) (ArgsD.cons (OpD.t rfl) (ArgsD.nil))) | ((first | apply SY.move | apply SY.assign | apply SY.eql | apply SY.neq) <;> (exact oD)) | (apply SY.load; (exact tD); (exact oD)) | (apply SY.build1'; (exact eD); ((try simp only [List.map_cons, List.map_nil]); (repeat (first | exact ElsD.nl | (apply ElsD.cn; (first | exact OpD.t rfl | exact OpD.i | exact OpD.b | exact OpD.tle rfl (by first | exact Dat.le_nil | exact Dat.le_nilK (by decide)) | exact ⟨Dat.le_nil⟩ | exact ⟨Dat.le_nilK (by decide)⟩))))); rfl; rfl; (intro _; first | exact shape_K | exact shape_I | exact shape_A | exact shape_B); (exact (by simp))) | (apply SY.extract; (exact oD); rfl) | fail); all_goals infer_instance))); dsimp only [setD, z0, z1]) | ((first | apply WL.opN | apply WD.opN); exact yF; dsimp only [setD, z0, z1]) | refine WL.nil ?_ | refine WD.nil ?_ | refine WC.seqK fun Kx hK => ?_ | (refine hK _ _ ?_; clear hK) | refine WC.region ?_ | (apply WC.draw; kernel_rfl; kernel_rfl) | (apply WL.alloc; (first | exact tzV | exact tzC); (first | exact shape_X rfl | exact shape_XV | exact shape_C0 rfl); (intro _; dsimp only [setD, z0, z1])) | (apply WL.storeF; (exact tD); rfl; (exact oD); (exact hD); dsimp only [setD, z0, z1]) | ((first | apply WL.opG | apply WD.op); (focus (first | exact wN | (apply SYG.yes; (exact wY); ((first | (apply SY.call (s012) Tryz.call41; exact ArgsD.cons (OpD.t rfl) (ArgsD.nil)) | (apply SY.call (s01) Tryz.call41; exact ArgsD.cons (OpD.t rfl) (ArgsD.nil)) | (apply SY.call (s02) Tryz.call41; exact ArgsD.cons (OpD.t rfl) (ArgsD.nil)) | (apply SY.call (s12) Tryz.call41; exact ArgsD.cons (OpD.t rfl) (ArgsD.nil)) | (apply SY.call (s23) Tryz.call41; exact ArgsD.cons (OpD.t rfl) (ArgsD.nil)) | (apply SY.call (s0) Tryz.call41; exact ArgsD.cons (OpD.t rfl) (ArgsD.nil)) | (apply SY.call (s1) Tryz.call41; exact ArgsD.cons (OpD.t rfl) (ArgsD.nil)) | (apply SY.call (s2) Tryz.call41; exact ArgsD.cons (OpD.t rfl) (ArgsD.nil)) | (apply SY.call (s3) Tryz.call41; exact ArgsD.cons (OpD.t rfl) (ArgsD.nil)) | (apply SY.call (p _ _) Tryz.call42; exact ArgsD.cons (OpD.t rfl) (ArgsD.cons (OpD.t rfl) (ArgsD.nil))) | (apply SY.call (c1) Tryz.call13; exact ArgsD.cons (OpD.t rfl) (ArgsD.nil)) | (apply SY.call (c3) Tryz.call20; exact ArgsD.cons (OpD.t rfl) (ArgsD.nil)) | (apply SY.call (c4) Tryz.call22; exact ArgsD.cons (OpD.t rfl) (ArgsD.nil)) | (apply SY.call (c5) Tryz.call22; exact ArgsD.cons (OpD.t rfl) (ArgsD.nil)) | (apply SY.call (c6) Tryz.call27; exact ArgsD.cons (OpD.t rfl) (ArgsD.cons (OpD.t rfl) (ArgsD.cons (OpD.t rfl) (ArgsD.nil)))) | (apply SY.call (q _) Tryz.call15; exact ArgsD.cons (OpD.t rfl) (ArgsD.cons (OpD.t rfl) (ArgsD.nil))) | (apply SY.call (q2 _) Tryz.call19; exact ArgsD.cons (OpD.t rfl) (ArgsD.cons (OpD.t rfl) (ArgsD.nil))) | ((first | apply SY.move | apply SY.assign | apply SY.eql | apply SY.neq) <;> (exact oD)) | ((first | apply SY.add) <;> first | exact oD | omega) | (apply SY.load; (exact tD); (exact oD)) | (apply SY.len; (exact oD); (exact nD); (exact uD)) | (apply SY.mkC cpxT; exact OpD.t rfl) | (apply SY.build1'; (exact eD); ((try simp only [List.map_cons, List.map_nil]); (repeat (first | exact ElsD.nl | (apply ElsD.cn; (first | exact OpD.t rfl | exact OpD.i | exact OpD.b | exact OpD.tle rfl (by first | exact Dat.le_nil | exact Dat.le_nilK (by decide)) | exact ⟨Dat.le_nil⟩ | exact ⟨Dat.le_nilK (by decide)⟩))))); rfl; rfl; (intro _; first | exact shape_K | exact shape_I | exact shape_A | exact shape_B); (exact (by simp))) | (apply SY.buildE; (exact eD); ((try simp only [List.map_cons, List.map_nil]); (repeat (first | exact ElsD.nl | (apply ElsD.cn; (first | exact OpD.t rfl | exact OpD.i | exact OpD.b | exact OpD.tle rfl (by first | exact Dat.le_nil | exact Dat.le_nilK (by decide)) | exact ⟨Dat.le_nil⟩ | exact ⟨Dat.le_nilK (by decide)⟩))))); rfl; rfl; decide; (intro _; exact shape_P); (exact (by simp))) | (apply SY.pickT; (exact oD); (with_reducible rfl); (exact oD)) | (apply SY.pickF; (exact oD); (with_reducible rfl); (exact oD)) | (apply SY.extract; (exact oD); rfl) | fail); all_goals infer_instance)))); dsimp only [setD, z0, z1]) | ((first | refine WL.caseP rfl rfl rfl (fun h => ?_) (fun h => ?_) | refine WL.caseN rfl rfl rfl (fun h => ?_) (fun h => ?_) | refine WL.caseB rfl rfl rfl (fun h => ?_) (fun h => ?_) | refine WD.caseP rfl rfl rfl (fun h => ?_) (fun h => ?_) | refine WD.caseN rfl rfl rfl (fun h => ?_) (fun h => ?_) | refine WD.caseB rfl rfl rfl (fun h => ?_) (fun h => ?_)) <;> (first | (exfalso; first | omega | contradiction) | (dsimp only [z0, z1]))) | (apply WC.condN; (exact oD); all_goals (intro h; try exact xD)) | refine WC.skip ?_ | refine WC.ret ?_)); all_goals (first | ((repeat clear hK); (repeat clear Kx))))
  (refine ⟨trivial, _, rfl, ?_⟩; exact fD)
end Go.Proofs.YtjbepoofigokjaaGreat
namespace Go.Proofs.YtjbepoofigokjaaGreat
open Go.RowKit
set_option linter.unusedSimpArgs false

set_option maxHeartbeats 2000000
set_option maxRecDepth 100000
theorem sameK_self (l : List Cl) : Fn Tryz.prog 15 [dS Cols l, dS Cols l] (dB true) := by
  have := sameKs_c l l
  rwa [decide_eq_true rfl] at this
set_option maxHeartbeats 8000000 in
theorem reduces32_p (l : Cx) : Fn Tryz.prog 5 [dS Cpx l] (dB true) := by
  (refine Fn.intro1 Tryz.func5 rfl rfl ?_; simp only [Tryz.ntmps5, List.length_cons, List.length_nil, Nat.reduceAdd, Nat.reduceSub, List.replicate_succ, List.replicate_zero, List.cons_append, List.nil_append])
  have c0 := few32_c l
  cases hf : few32 l with
  | false =>
    rw [hf] at c0
    ((repeat' (first | (apply WL.opN; exact yF; dsimp only [setD, z0, z1]) | refine WL.nil ?_ | refine WC.seqK fun Kx hK => ?_ | (refine hK _ _ ?_; clear hK) | refine WC.region ?_ | (apply WL.opG; (focus (first | exact wN | (apply SYG.yes; (exact wY); ((first | (apply SY.call (c0) Tryz.call11; (exact aD)) | (apply SY.call (awake32_p) Tryz.call12; (exact aD)) | ((first | apply SY.move | apply SY.assign | apply SY.eql | apply SY.not) <;> (exact oD)) | (apply SY.box; (exact oD); (exact hD)) | fail); all_goals infer_instance)))); dsimp only [setD, z0, z1]) | (apply WC.condNB; (exact oD); all_goals (intro h; try exact xD)) | refine WC.ret ?_ | refine ThenD.r ?_)); all_goals (first | ((repeat clear hK); (repeat clear Kx))))
    all_goals first | (exfalso; omega) | (refine ⟨trivial, _, rfl, ?_⟩; exact fD)
  | true =>
    rw [hf] at c0
    have c1 := reduce32_p l
    have c2 := reduce32_c l
    have c3 := coll32_p l
    have c4 := coll32_c l
    generalize redK l = R at *
    generalize collK l = S at *
    ((repeat' (first | (apply WL.opN; exact yF; dsimp only [setD, z0, z1]) | refine WL.nil ?_ | refine WC.seqK fun Kx hK => ?_ | (refine hK _ _ ?_; clear hK) | refine WC.region ?_ | (apply WL.alloc; (first | exact tzV | exact tzC); (first | exact shape_X rfl | exact shape_XV | exact shape_C0 rfl); (intro _; dsimp only [setD, z0, z1])) | (apply WL.storeF; (exact tD); rfl; (exact oD); (exact hD); dsimp only [setD, z0, z1]) | (apply WL.opG; (focus (first | exact wN | (apply SYG.yes; (exact wY); ((first | (apply SY.call (c0) Tryz.call11; (exact aD)) | (apply SY.call (c1) Tryz.call20; (exact aD)) | (apply SY.call (c2) Tryz.call21; (exact aD)) | (apply SY.call (c3) Tryz.call22; (exact aD)) | (apply SY.call (c4) Tryz.call23; (exact aD)) | (apply SY.call (sameC_self _) Tryz.call19; (exact aD)) | (apply SY.call (sameK_self _) Tryz.call15; (exact aD)) | (apply SY.call (awake32_p) Tryz.call12; (exact aD)) | ((first | apply SY.move | apply SY.assign | apply SY.eql | apply SY.not) <;> (exact oD)) | (apply SY.pickT; (exact oD); (with_reducible rfl); (exact oD)) | (apply SY.extract; (exact oD); rfl) | (apply SY.box; (exact oD); (exact hD)) | fail); all_goals infer_instance)))); dsimp only [setD, z0, z1]) | ((first | refine WL.caseP rfl rfl rfl (fun h => ?_) (fun h => ?_) | refine WL.caseN rfl rfl rfl (fun h => ?_) (fun h => ?_) | refine WL.caseB rfl rfl rfl (fun h => ?_) (fun h => ?_)) <;> (first | (exfalso; first | omega | contradiction) | (dsimp only [z0, z1]))) | (apply WC.condNB; (exact oD); all_goals (intro h; try exact xD)) | refine WC.skip ?_ | refine WC.ret ?_)); all_goals (first | ((repeat clear hK); (repeat clear Kx))))
    all_goals first | (exfalso; omega) | (refine ⟨trivial, _, rfl, ?_⟩; exact fD)
end Go.Proofs.YtjbepoofigokjaaGreat
namespace Go.Proofs.YtjbepoofigokjaaGreat
open Go.ChangeShapes Go.WideShapes Go.ChangeAt Go.RowKit
set_option maxRecDepth 100000

theorem own : ownKnob Tryz.prog.godebug = none := by kernel_rfl
theorem laidOut : laidOutB Tryz.prog = true := by kernel_rfl
theorem cellsV : Tryz.prog.cellsOf 63 = 2 := by kernel_rfl
theorem cellsS : Tryz.prog.cellsOf 34 = 1 := by kernel_rfl
theorem cellsI : Tryz.prog.cellsOf 3 = 1 := by kernel_rfl

section
variable {H : Type} {enc : TypeId × Value → H}
theorem open_V {w : World} {fuel : Nat} {v : Value} {x : DataW H × List MemPlace} (h : DataW.trod enc Tryz.prog w 0 (fun _ => true) true fuel 34 [v] = some x) :
    ∃ xs, Verts anyB w v xs := by
  rcases Deep.open_slice_pairs Tryz.underlying34 Tryz.underlying63 cellsV rfl rfl cellsI cellsI h with ⟨hc, _⟩ | ⟨a, len, cap, m, n, V0, V1, D0, D1, P0, P1, hc, _, hl, hm, hmm, _, hx⟩
  · obtain rfl : v = .slice none 0 0 := by simpa using hc
    exact ⟨[], ArrK.nil' (by decide)⟩
  · obtain rfl : v = .slice (some a) len cap := by simpa using hc
    simp only [if_true] at hmm
    subst hmm
    have hz : ∀ i, ∃ p : Int × Int, i < m → V0 i = .int .i64 p.1 ∧ V1 i = .int .i64 p.2 := fun i => by
      by_cases hi : i < m
      · obtain ⟨_, _, h2, h3⟩ := hx i hi
        obtain ⟨p, hp, _⟩ := DataW.trod_int Tryz.underlying3 h2
        obtain ⟨q, hq, _⟩ := DataW.trod_int Tryz.underlying3 h3
        exact ⟨(p, q), fun _ => ⟨by simpa using hp, by simpa using hq⟩⟩
      · exact ⟨(0, 0), fun h => absurd h hi⟩
    obtain ⟨z, hz⟩ := Classical.axiomOfChoice hz
    have hlen : ((List.range len).map z).length = len := by simp
    refine ⟨(List.range len).map z, some a, m, by rw [hlen], by rw [hlen]; exact hl, hm, by decide, fun k hk => ?_⟩
    rw [hlen] at hk
    obtain ⟨h0, h1, _⟩ := hx k (by omega)
    have hs := World.cell?_spot (hx 0 (by omega)).1
    obtain ⟨b, off, sp⟩ := a
    obtain rfl : sp = none := by simpa [Addr.add] using hs
    obtain ⟨e0, e1⟩ := hz k (by omega)
    refine ⟨[.int .i64 (z k).1, .int .i64 (z k).2], b, off, by simp [RV], rfl, by simp [Value.oneCell'], rfl, trivial, fun j c hc => ?_⟩
    rw [Addr.add_lit] at h0 h1
    match j, hc with
    | 0, hc => cases hc; rw [Nat.add_zero, ← e0]; exact h0
    | 1, hc => cases hc; rw [← e1, Nat.add_assoc]; exact h1
theorem open_S {w : World} {fuel : Nat} {v : Value} {x : DataW H × List MemPlace} (h : DataW.trod enc Tryz.prog w 0 (fun _ => true) true fuel 22 [v] = some x) :
    ∃ xs, Simps anyB w v xs := by
  rcases Deep.open_slice1 Tryz.underlying22 cellsS h with ⟨hc, _⟩ | ⟨a, len, cap, m, n, V, D, Pl, hc, _, hl, hm, hmm, _, hx⟩
  · obtain rfl : v = .slice none 0 0 := by simpa using hc
    exact ⟨[], Arr.nil'⟩
  · obtain rfl : v = .slice (some a) len cap := by simpa using hc
    simp only [if_true] at hmm
    subst hmm
    have hz : ∀ i, ∃ xs : List (Int × Int), i < m → Verts anyB w (V i) xs := fun i => by
      by_cases hi : i < m
      · obtain ⟨xs, h1⟩ := open_V (hx i hi).2
        exact ⟨xs, fun _ => h1⟩
      · exact ⟨[], fun h => absurd h hi⟩
    obtain ⟨z, hz⟩ := Classical.axiomOfChoice hz
    have hlen : ((List.range len).map z).length = len := by simp
    refine ⟨(List.range len).map z, some a, m, by rw [hlen], by rw [hlen]; exact hl, hm, fun k hk => ?_⟩
    rw [hlen] at hk
    obtain ⟨h0, _⟩ := hx k (by omega)
    have hs := World.cell?_spot (hx 0 (by omega)).1
    obtain ⟨b, off, sp⟩ := a
    obtain rfl : sp = none := by simpa [Addr.add] using hs
    have hv := hz k (by omega)
    refine ⟨V k, b, off, by simpa using hv, ?_, rfl, trivial, by rw [Addr.add_lit] at h0; exact h0⟩
    obtain ⟨a', c', hv', _⟩ := hv
    rw [hv']; rfl
end

section
variable {H : Type} {enc : TypeId × Value → H}

theorem args_kept {W W' : World} (hE : Ext W W') : ∀ {ts : List TypeId} {vs : List Value} {ds : List (DataW H)} {ps : List MemPlace}, (∀ t ∈ ts, Tryz.prog.readableRec t = true ∧ t < Tryz.prog.types.size) → (∀ p ∈ ps, p.block < W.heap.size) →
    DataW.TrodAll enc Tryz.prog W 0 (fun _ => true) true ts vs ds ps → DataW.TrodAll enc Tryz.prog W' 0 (fun b => decide (b < W.heap.size)) true ts vs ds ps
  | [], _, _, _, _, _, h => by
    obtain ⟨rfl, rfl, rfl⟩ := trodAll_nil h
    exact trodAll_mk0
  | t :: ts, _, _, _, ht, hlt, h => by
    obtain ⟨v, vs1, d, ds1, a, b, rfl, rfl, rfl, h1, h2⟩ := trodAll_cons h
    exact trodAll_cons_mk (Below.trod laidOut (ht t (by simp)).1 (ht t (by simp)).2 h1 hE (fun x hx => hlt x (by simp [hx]))) (args_kept hE (fun t' h' => ht t' (by simp [h'])) (fun p hp => hlt p (by simp [hp])) h2)

theorem post_law {f : Func} {s : ChangeSpec} {W W' : World} {args : Array Value} {ds gs : List (DataW H)} {before : List MemPlace} (hW : DataW.Whole enc Tryz.prog f.params.toList s.vars false W args.toList ds gs before) (hvars : s.vars = [])
    (hr : f.resultTypes = #[4]) (hs : s.fn H ds = { results := [.lit (.bool true)], args := ds }) (ht : ∀ t ∈ f.params.toList, Tryz.prog.readableRec t = true ∧ t < Tryz.prog.types.size) (hE : Ext W W') :
    s.post enc Tryz.prog f false true false false W args (.bool true) W' := by
  have hlt := hW.lt
  have hW' := hW
  obtain ⟨p, q, hA, hV, rfl, hfz, hnd⟩ := hW
  rw [hvars] at hV
  obtain ⟨rfl, rfl⟩ := trodVars_none hV
  refine ⟨ds, [], p ++ [], [], p, [], hW', ?_, ?_, ?_, hE.frame _, fun h => by cases h⟩
  · rw [hr, List.append_nil, hs]
    exact trodAll_mk1 (shut_bool Tryz.underlying4 true)
  · rw [List.append_nil, hs]
    exact args_kept hE ht (fun x hx => hlt x (by simp [hx])) hA
  · rw [hvars, List.append_nil, hs]
    rfl
theorem fn_law {f : FuncId} {ds : List Dat} (hF : Fn Tryz.prog f ds (dB true)) {W : World} {vs : List Value} (hl : vs.length = ds.length) (h : ∀ (i : Nat) (d : Dat), ds[i]? = some d → d.rd anyB W (vs.getD i undef)) :
    Calls Tryz.prog f vs.toArray W fun e W' => e = .returned (.bool true) ∧ Ext W W' :=
  (hF.out anyB W vs hl h).mono fun _ _ ⟨_, h1, h2, h3⟩ => by cases (h3 : _ = _); exact ⟨h1, h2⟩
end
end Go.Proofs.YtjbepoofigokjaaGreat
namespace Go.Proofs.YtjbepoofigokjaaGreat
open Go.ChangeShapes Go.WideShapes Go.ChangeAt Go.RowKit
set_option maxRecDepth 100000
section
variable {H : Type} {enc : TypeId × Value → H}
theorem cellsC : Tryz.prog.cellsOf 24 = 1 := by kernel_rfl
theorem cellsSS : Tryz.prog.cellsOf 22 = 1 := by kernel_rfl
theorem open_C' {w : World} {r : Reach} {b0 : Nat} {v : Value} {d : DataW H} {ps : List MemPlace} (hv : Value.okWide Tryz.prog w r b0 24 v) (h : DataW.Trod enc Tryz.prog w 0 (fun _ => true) true 24 v d ps) : ∃ xs, (dS Cpx xs).rd anyB w v := by
  obtain ⟨fuel, h⟩ := h
  obtain ⟨cs, rfl, hcs⟩ := okWide_struct Tryz.underlying24 hv
  rw [cellsC] at hcs
  obtain ⟨u, rfl⟩ := Array.size_eq_one_iff.1 hcs
  obtain ⟨y0, n, hy, hl, h0⟩ := trod_struct1 Tryz.underlying24 h
  have h0' : DataW.trod enc Tryz.prog w 0 (fun _ => true) true n 22 [u] = some y0 := by
    have e : Tryz.prog.cellsOf 22 = 1 := cellsSS
    simpa [Value.cells, e] using h0
  obtain ⟨xs, hx⟩ := open_S h0'
  refine ⟨xs, u, rfl, ?_, hx⟩
  obtain ⟨a, c, hu, _⟩ := hx
  rw [hu]; rfl
end
end Go.Proofs.YtjbepoofigokjaaGreat
