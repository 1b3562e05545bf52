/-
  Part 38 of the texts that the claims of this seat lean on: walks of the program's functions by contracts over symbolic frames, and plain laws of what they compute. No condition.
-/
import Derived.Test.YtjbepoofigokjaaGreatProg
import Derived.Test.YtjbepoofigokjaaGreatVf9
import Derived.Test.YtjbepoofigokjaaGreatVf15
import Derived.Test.YtjbepoofigokjaaGreatVf24
import Derived.Test.YtjbepoofigokjaaGreatVf25
import Derived.Test.YtjbepoofigokjaaGreatVf26
import Derived.Test.YtjbepoofigokjaaGreatVf31
import Derived.Test.YtjbepoofigokjaaGreatVf35
import Derived.Test.YtjbepoofigokjaaGreatVf37
set_option linter.unusedVariables false
set_option linter.unusedSimpArgs false
set_option linter.unusedSectionVars false
namespace Go.Proofs.YtjbepoofigokjaaGreat
open Go.RowKit
set_option linter.unusedSimpArgs false

set_option maxHeartbeats 2000000
set_option maxRecDepth 100000
theorem pair32_p (a b : List Vx) : Fn Tryz.prog 42 [dS Verts a, dS Verts b] (dS Col (a, b)) := by
  refine Fn.introC1 tyCo Tryz.func42 rfl rfl ?_
  simp only [Tryz.ntmps42, List.length_cons, List.length_nil, Nat.reduceAdd, Nat.reduceSub, List.replicate_succ, List.replicate_zero, List.cons_append, List.nil_append]
  ((repeat' (first | (apply WL.opN; exact yF; dsimp only [setD, z0, z1]) | refine WL.nil ?_ | refine WC.seqK fun Kx hK => ?_ | (refine hK _ _ ?_; clear hK) | refine WC.region ?_ |  (apply WL.alloc tzCo; exact shape_Z2; (intro b4; dsimp only [setD, z0, z1])) |  (refine WL.storeF tyCo rfl (OpD.t rfl) shape_P ?_; dsimp only [setD, z0, z1]) | (apply WL.opN; (focus ((first | (apply SY.mkP colT <;> exact OpD.t rfl) | fail); all_goals infer_instance)); dsimp only [setD, z0, z1]) | refine WC.ret ?_)); all_goals (first | ((repeat clear hK); (repeat clear Kx))))
  (refine ⟨trivial, _, rfl, ?_⟩; exact fD)
theorem simplex32_p (cs : List Int) (hl : cs.length ≤ 100) : Fn Tryz.prog 41 [dS Ints cs] (dS Verts (cs.map fun c => (c, 0))) := by
  (refine Fn.intro1 Tryz.func41 rfl rfl ?_; simp only [Tryz.ntmps41, List.length_cons, List.length_nil, Nat.reduceAdd, Nat.reduceSub, List.replicate_succ, List.replicate_zero, List.cons_append, List.nil_append])
  (repeat' (first | (apply WL.opN; exact yF; dsimp only [setD, z0, z1]) | refine WL.nil ?_ | refine WC.seqK fun Kx hK => ?_ | (refine hK _ _ ?_; clear hK) | refine WC.region ?_ | (apply WL.opN; (focus ((first | (apply SY.len; (exact oD); (exact nD); (exact uD)) | fail); all_goals infer_instance)); dsimp only [setD, z0, z1]) | refine WC.block ?_))
  refine WC.nilRowK 63 2 (by decide) RV ?_
  (refine WC.loopU (X := Nat × Value × List Vx) (fun x => [(8, dI (x.1 : Int)), (3, dX x.2.1), (5, dA), (9, dA), (10, dA), (11, dA), (12, dA), (13, dA), (14, dA), (15, dA), (16, dA), (17, dA)]) (fun x => [hRowK x.2.1 63 2 RV x.2.2]) (fun x => cs.length - x.1) (fun x => x.1 ≤ cs.length ∧ x.2.2 = (cs.take x.1).map fun c => (c, 0)) (0, .slice none 0 0, []) ?start ?frame0 ?objs0 ?round)
  case start => exact ⟨Nat.zero_le _, rfl⟩
  case frame0 => ((try dsimp only [upds, z0, z1]); repeat (first | exact LeF.nil | refine LeF.co (k := ?_)))
  case objs0 => rfl
  case round =>
    rintro ⟨k, v, o⟩ ⟨h1, h2⟩
    simp only at h1 h2
    have hol : o.length ≤ 100 := by rw [h2, List.length_map, List.length_take]; omega
    dsimp only [upds, z0, z1]
    by_cases hk : k < cs.length
    · ((repeat' (first | (apply WL.opN; exact yF; dsimp only [setD, z0, z1]) | refine WL.nil ?_ | refine WC.seqK fun Kx hK => ?_ | (refine hK _ _ ?_; clear hK) | refine WC.region ?_ | ((first | apply WL.pushK | apply WL.push1); (exact eD); exact OpD.t rfl; (exact oD); (intro _; exact hD); (exact (by simp)); (exact (by simp)); (first | exact ⟨by decide, by decide⟩ | skip); decide; (exact lD); (intro _; dsimp only [setD, z0, z1]); all_goals (try infer_instance)) | (apply WL.opN; (focus ((first | (apply SY.mkV0 vxT; exact OpD.t rfl) | ((first | apply SY.move | apply SY.assign | apply SY.lss) <;> (exact oD)) | ((first | apply SY.add) <;> first | exact oD | omega) | (apply SY.ix; (exact eD); (exact oD); (exact oD); exact kD) | fail); all_goals infer_instance)); dsimp only [setD, z0, z1]) | (apply WC.condD; (exact oD); all_goals (intro h; try exact xD)) | refine WC.skip ?_ | refine WC.block ?_ | refine ThenD.n ?_)); all_goals (first | ((repeat clear hK); (repeat clear Kx))))
      all_goals first | (exfalso; omega) | skip
      rename_i v'
      (refine ⟨(k + 1, v', o ++ [(cs[k], 0)]), ?_, by first | omega | (simp only; omega), rfl, ?_⟩; rotate_left; ((try dsimp only [upds, z0, z1]); repeat (first | exact LeF.nil | refine LeF.co (k := ?_))); (try dsimp only))
      exact ⟨by show k + 1 ≤ _; omega, by show o ++ _ = _; rw [take_snoc' hk, List.map_append, h2]; rfl⟩
    · rw [List.take_of_length_le (by omega)] at h2
      subst h2
      ((repeat' (first | (apply WL.opN; exact yF; dsimp only [setD, z0, z1]) | refine WL.nil ?_ | refine WC.seqK fun Kx hK => ?_ | (refine hK _ _ ?_; clear hK) | (refine Kont.skip ?_; clear hK) | refine WC.region ?_ | (apply WL.opN; (focus ((first | ((first | apply SY.move | apply SY.assign | apply SY.lss) <;> (exact oD)) | fail); all_goals infer_instance)); dsimp only [setD, z0, z1]) | (apply WC.condD; (exact oD); all_goals (intro h; try exact xD)) | refine WC.ret ?_ | refine WC.exit ?_)); all_goals (first | ((repeat clear hK); (repeat clear Kx))))
      all_goals first | (exfalso; omega) | skip
      (refine ⟨trivial, _, rfl, ?_⟩; exact fD)
abbrev wa : Vx := (0, 0)
abbrev wb : Vx := (1, 0)
abbrev wc : Vx := (2, 0)
abbrev wd : Vx := (3, 0)
abbrev exK : Cx := [[wa, wb, wc], [wc, wd]]
abbrev exW : List Cl := [([wa, wb], [wa, wb, wc]), ([wa], [wa, wc]), ([wb], [wb, wc]), ([wc], [wc, wd])]
abbrev exA : List Cl := [([wa, wb], [wa, wb, wc]), ([wa, wc], [wa, wb, wc]), ([wb, wc], [wa, wb, wc]), ([wd], [wc, wd])]
theorem k_chk : chkC exK = 0 := by decide
theorem k_free : freeK exK = (exA, 0) := by decide
theorem k_step : stepK exK ([wa, wb], [wa, wb, wc]) = ([[wa, wc], [wb, wc], [wc, wd]], 0) := by decide
theorem k_whole : wholeN exK 8 = 9 := by decide
theorem k_redC : redC 5 exK = ([[wd]], exW) := by decide
theorem k_circ : pairsC [[wa, wb], [wa, wc], [wb, wc]] = [] := by decide
theorem redC_stop : ∀ (n m : Nat) (l : Cx), pairsC (redC n l).1 = [] → redC (n + m) l = redC n l
  | 0, m, l, h => by
    have h' : pairsC l = [] := h
    rw [redC_nil h', redC_nil h']
  | n + 1, m, l, h => by
    cases hp : pairsC l with
    | nil => rw [redC_nil hp, redC_nil hp]
    | cons x t =>
      rw [redC_cons hp] at h ⊢
      rw [show n + 1 + m = (n + m) + 1 by omega, redC_cons hp, redC_stop n m _ h]
theorem k_red : redK exK = ([[wd]], exW, 0) := by
  have h : reducedC exK = ([[wd]], exW) := by
    show redC (5 + 4091) exK = _
    rw [redC_stop 5 4091 exK (by rw [k_redC]; decide), k_redC]
  unfold redK
  rw [k_chk, k_whole, h]
  rfl
theorem k_coll : collK exK = (1, exW, 0) := by
  unfold collK
  rw [k_red]
  rfl
theorem k_red2 : redK [[wa, wb], [wa, wc], [wb, wc]] = ([[wa, wb], [wa, wc], [wb, wc]], [], 0) := by
  have h : reducedC [[wa, wb], [wa, wc], [wb, wc]] = ([[wa, wb], [wa, wc], [wb, wc]], []) := redC_nil k_circ 4096
  unfold redK
  rw [h, if_neg (by decide), if_neg (by decide)]
theorem k_coll2 : collK [[wa, wb], [wa, wc], [wb, wc]] = (2, [], 0) := by
  unfold collK
  rw [k_red2, if_neg (by decide), if_neg (by decide), if_pos (.inr (by decide))]
theorem k_ver : verK exK exW [[wd]] = 0 := by decide
set_option maxHeartbeats 32000000 in
theorem awake32_p : Fn Tryz.prog 12 [] (dB true) := by
  have c1 := free32_p exK
  rw [k_free] at c1
  have c2 := step32_p exK ([wa, wb], [wa, wb, wc]) fun _ => by rw [k_whole]; decide
  rw [k_step] at c2
  have c3 := reduce32_p exK
  rw [k_red] at c3
  have c4 := coll32_p exK
  rw [k_coll] at c4
  have c5 := coll32_p [[wa, wb], [wa, wc], [wb, wc]]
  rw [k_coll2] at c5
  have c6 := verify32_p exK exW [[wd]] fun _ => by rw [k_whole]; decide
  rw [k_ver] at c6
  have s012 : Fn Tryz.prog 41 [dS Ints [0, 1, 2]] (dS Verts [wa, wb, wc]) := simplex32_p [0, 1, 2] (by decide)
  have s01 : Fn Tryz.prog 41 [dS Ints [0, 1]] (dS Verts [wa, wb]) := simplex32_p [0, 1] (by decide)
  have s02 : Fn Tryz.prog 41 [dS Ints [0, 2]] (dS Verts [wa, wc]) := simplex32_p [0, 2] (by decide)
  have s12 : Fn Tryz.prog 41 [dS Ints [1, 2]] (dS Verts [wb, wc]) := simplex32_p [1, 2] (by decide)
  have s23 : Fn Tryz.prog 41 [dS Ints [2, 3]] (dS Verts [wc, wd]) := simplex32_p [2, 3] (by decide)
  have s0 : Fn Tryz.prog 41 [dS Ints [0]] (dS Verts [wa]) := simplex32_p [0] (by decide)
  have s1 : Fn Tryz.prog 41 [dS Ints [1]] (dS Verts [wb]) := simplex32_p [1] (by decide)
  have s2 : Fn Tryz.prog 41 [dS Ints [2]] (dS Verts [wc]) := simplex32_p [2] (by decide)
  have s3 : Fn Tryz.prog 41 [dS Ints [3]] (dS Verts [wd]) := simplex32_p [3] (by decide)
  have p : ∀ a b : List Vx, Fn Tryz.prog 42 [dS Verts a, dS Verts b] (dS Col (a, b)) := pair32_p
  have q : ∀ l : List Cl, Fn Tryz.prog 15 [dS Cols l, dS Cols l] (dB true) := fun l => by
    have := sameKs_c l l
    rwa [decide_eq_true rfl] at this
  have q2 := sameC_self
  refine Fn.intro1 Tryz.func12 rfl rfl ?_
  show WC _ _ _ (List.replicate 170 (dX undef)) []
  simp only [List.replicate_succ, List.replicate_zero]
  ((repeat' (first |  (refine WC.drawM (fun _ => True) 12 1 [(0, false), (1, false), (2, false), (3, false), (4, false), (5, false), (6, false), (7, false), (8, false), (9, false), (10, true), (11, true)] [true, true, true, true, true, true, true, true, true, true, true, true, false] (by kernel_rfl) (by kernel_rfl) (by kernel_rfl) rfl (trivial) ?_) |  (first | refine WA.one (S := [true, true, true, true, true, true, true, true, true, true, true, true, false]) (i := 12) (by kernel_rfl) rfl ?_ | refine WA.nil (S := [true, true, true, true, true, true, true, true, true, true, true, true, true]) (by kernel_rfl) ?_) |  (refine WM.writeL rfl (SW.alloc tzC (shape_C0 rfl)) (fun _ => trivial) fun b4 => ?_; dsimp only [setD, z0, z1, List.cons_append, List.nil_append]) |  (refine WM.writeL rfl (SW.storeK tyC (OpD.t rfl) (OpD.t rfl) shape_C) (fun _ => trivial) fun _ => ?_; dsimp only [setD, z0, z1, List.cons_append, List.nil_append]) |  (refine WC.freezeC (t := 4) rfl ?_; dsimp only [z0, z1]) | (refine WM.nil ?_) | (apply WM.readL rfl; (focus (intro c hcc; apply SYG.yes; (exact want_none rfl); ((first | (apply SY.call (s012) Tryz.call41; exact ArgsD.cons (OpD.t rfl) (ArgsD.nil)) | (apply SY.call (s01) Tryz.call41; exact ArgsD.cons (OpD.t rfl) (ArgsD.nil)) | (apply SY.call (s02) Tryz.call41; exact ArgsD.cons (OpD.t rfl) (ArgsD.nil)) | (apply SY.call (s12) Tryz.call41; exact ArgsD.cons (OpD.t rfl) (ArgsD.nil)) | (apply SY.call (s23) Tryz.call41; exact ArgsD.cons (OpD.t rfl) (ArgsD.nil)) | (apply SY.call (s0) Tryz.call41; exact ArgsD.cons (OpD.t rfl) (ArgsD.nil)) | (apply SY.call (s1) Tryz.call41; exact ArgsD.cons (OpD.t rfl) (ArgsD.nil)) | (apply SY.call (s2) Tryz.call41; exact ArgsD.cons (OpD.t rfl) (ArgsD.nil)) | (apply SY.call (s3) Tryz.call41; exact ArgsD.cons (OpD.t rfl) (ArgsD.nil)) | (apply SY.call (p _ _) Tryz.call42; exact ArgsD.cons (OpD.t rfl) (ArgsD.cons (OpD.t rfl) (ArgsD.nil))) | (apply SY.call (c2) Tryz.call17; exact ArgsD.cons (OpD.t rfl) (ArgsD.cons (OpD.t rfl) (ArgsD.nil))) | ((first | apply SY.move | apply SY.assign | apply SY.eql | apply SY.neq) <;> (exact oD)) | (apply SY.load; (exact tD); (exact oD)) | (apply SY.build1'; (exact eD); ((try simp only [List.map_cons, List.map_nil]); (repeat (first | exact ElsD.nl | (apply ElsD.cn; (first | exact OpD.t rfl | exact OpD.i | exact OpD.b | exact OpD.tle rfl (by first | exact Dat.le_nil | exact Dat.le_nilK (by decide)) | exact ⟨Dat.le_nil⟩ | exact ⟨Dat.le_nilK (by decide)⟩))))); rfl; rfl; (intro _; first | exact shape_K | exact shape_I | exact shape_A | exact shape_B); (exact (by simp))) | (apply SY.extract; (exact oD); rfl) | fail); all_goals infer_instance))); dsimp only [setD, z0, z1]) | ((first | apply WL.opN | apply WD.opN); exact yF; dsimp only [setD, z0, z1]) | refine WL.nil ?_ | refine WD.nil ?_ | refine WC.seqK fun Kx hK => ?_ | (refine hK _ _ ?_; clear hK) | refine WC.region ?_ | (apply WC.draw; kernel_rfl; kernel_rfl) | (apply WL.alloc; (first | exact tzV | exact tzC); (first | exact shape_X rfl | exact shape_XV | exact shape_C0 rfl); (intro _; dsimp only [setD, z0, z1])) | (apply WL.storeF; (exact tD); rfl; (exact oD); (exact hD); dsimp only [setD, z0, z1]) | ((first | apply WL.opG | apply WD.op); (focus (first | exact wN | (apply SYG.yes; (exact wY); ((first | (apply SY.call (s012) Tryz.call41; exact ArgsD.cons (OpD.t rfl) (ArgsD.nil)) | (apply SY.call (s01) Tryz.call41; exact ArgsD.cons (OpD.t rfl) (ArgsD.nil)) | (apply SY.call (s02) Tryz.call41; exact ArgsD.cons (OpD.t rfl) (ArgsD.nil)) | (apply SY.call (s12) Tryz.call41; exact ArgsD.cons (OpD.t rfl) (ArgsD.nil)) | (apply SY.call (s23) Tryz.call41; exact ArgsD.cons (OpD.t rfl) (ArgsD.nil)) | (apply SY.call (s0) Tryz.call41; exact ArgsD.cons (OpD.t rfl) (ArgsD.nil)) | (apply SY.call (s1) Tryz.call41; exact ArgsD.cons (OpD.t rfl) (ArgsD.nil)) | (apply SY.call (s2) Tryz.call41; exact ArgsD.cons (OpD.t rfl) (ArgsD.nil)) | (apply SY.call (s3) Tryz.call41; exact ArgsD.cons (OpD.t rfl) (ArgsD.nil)) | (apply SY.call (p _ _) Tryz.call42; exact ArgsD.cons (OpD.t rfl) (ArgsD.cons (OpD.t rfl) (ArgsD.nil))) | (apply SY.call (c1) Tryz.call13; exact ArgsD.cons (OpD.t rfl) (ArgsD.nil)) | (apply SY.call (c3) Tryz.call20; exact ArgsD.cons (OpD.t rfl) (ArgsD.nil)) | (apply SY.call (c4) Tryz.call22; exact ArgsD.cons (OpD.t rfl) (ArgsD.nil)) | (apply SY.call (c5) Tryz.call22; exact ArgsD.cons (OpD.t rfl) (ArgsD.nil)) | (apply SY.call (c6) Tryz.call27; exact ArgsD.cons (OpD.t rfl) (ArgsD.cons (OpD.t rfl) (ArgsD.cons (OpD.t rfl) (ArgsD.nil)))) | (apply SY.call (q _) Tryz.call15; exact ArgsD.cons (OpD.t rfl) (ArgsD.cons (OpD.t rfl) (ArgsD.nil))) | (apply SY.call (q2 _) Tryz.call19; exact ArgsD.cons (OpD.t rfl) (ArgsD.cons (OpD.t rfl) (ArgsD.nil))) | ((first | apply SY.move | apply SY.assign | apply SY.eql | apply SY.neq) <;> (exact oD)) | ((first | apply SY.add) <;> first | exact oD | omega) | (apply SY.load; (exact tD); (exact oD)) | (apply SY.len; (exact oD); (exact nD); (exact uD)) | (apply SY.mkC cpxT; exact OpD.t rfl) | (apply SY.build1'; (exact eD); ((try simp only [List.map_cons, List.map_nil]); (repeat (first | exact ElsD.nl | (apply ElsD.cn; (first | exact OpD.t rfl | exact OpD.i | exact OpD.b | exact OpD.tle rfl (by first | exact Dat.le_nil | exact Dat.le_nilK (by decide)) | exact ⟨Dat.le_nil⟩ | exact ⟨Dat.le_nilK (by decide)⟩))))); rfl; rfl; (intro _; first | exact shape_K | exact shape_I | exact shape_A | exact shape_B); (exact (by simp))) | (apply SY.buildE; (exact eD); ((try simp only [List.map_cons, List.map_nil]); (repeat (first | exact ElsD.nl | (apply ElsD.cn; (first | exact OpD.t rfl | exact OpD.i | exact OpD.b | exact OpD.tle rfl (by first | exact Dat.le_nil | exact Dat.le_nilK (by decide)) | exact ⟨Dat.le_nil⟩ | exact ⟨Dat.le_nilK (by decide)⟩))))); rfl; rfl; decide; (intro _; exact shape_P); (exact (by simp))) | (apply SY.pickT; (exact oD); (with_reducible rfl); (exact oD)) | (apply SY.pickF; (exact oD); (with_reducible rfl); (exact oD)) | (apply SY.extract; (exact oD); rfl) | fail); all_goals infer_instance)))); dsimp only [setD, z0, z1]) | ((first | refine WL.caseP rfl rfl rfl (fun h => ?_) (fun h => ?_) | refine WL.caseN rfl rfl rfl (fun h => ?_) (fun h => ?_) | refine WL.caseB rfl rfl rfl (fun h => ?_) (fun h => ?_) | refine WD.caseP rfl rfl rfl (fun h => ?_) (fun h => ?_) | refine WD.caseN rfl rfl rfl (fun h => ?_) (fun h => ?_) | refine WD.caseB rfl rfl rfl (fun h => ?_) (fun h => ?_)) <;> (first | (exfalso; first | omega | contradiction) | (dsimp only [z0, z1]))) | (apply WC.condN; (exact oD); all_goals (intro h; try exact xD)) | refine WC.skip ?_ | refine WC.ret ?_)); all_goals (first | ((repeat clear hK); (repeat clear Kx))))
  (refine ⟨trivial, _, rfl, ?_⟩; exact fD)
end Go.Proofs.YtjbepoofigokjaaGreat
namespace Go.Proofs.YtjbepoofigokjaaGreat
open Go.RowKit
set_option linter.unusedSimpArgs false

set_option maxHeartbeats 2000000
set_option maxRecDepth 100000
def goodK (l : Cx) : Bool := few32 l && decide (chkC l = 0)
theorem good32_p (l : Cx) : Fn Tryz.prog 29 [dS Cpx l] (dB (goodK l)) := by
  (refine Fn.intro1 Tryz.func29 rfl rfl ?_; simp only [Tryz.ntmps29, List.length_cons, List.length_nil, Nat.reduceAdd, Nat.reduceSub, List.replicate_succ, List.replicate_zero, List.cons_append, List.nil_append])
  have c0 := few32_c l
  have c1 := chk27_c l
  unfold goodK
  generalize few32 l = F at *
  cases F with
  | false =>
    ((repeat' (first | (apply WL.opN; exact yF; dsimp only [setD, z0, z1]) | refine WL.nil ?_ | refine WC.seqK fun Kx hK => ?_ | (refine hK _ _ ?_; clear hK) | refine WC.region ?_ | (apply WL.opG; (focus (first | exact wN | (apply SYG.yes; (exact wY); ((first | (apply SY.call (c0) Tryz.call11; (exact aD)) | (apply SY.call (c1) Tryz.call44; (exact aD)) | (apply SY.pickF; (exact oD); (with_reducible rfl); (exact oD)) | (apply SY.box; (exact oD); (exact hD)) | fail); all_goals infer_instance)))); dsimp only [setD, z0, z1]) | refine WC.ret ?_)); all_goals (first | ((repeat clear hK); (repeat clear Kx))))
    all_goals first | (exfalso; omega) | (refine ⟨trivial, _, rfl, ?_⟩; exact fD)
  | true =>
    ((repeat' (first | (apply WL.opN; exact yF; dsimp only [setD, z0, z1]) | refine WL.nil ?_ | refine WC.seqK fun Kx hK => ?_ | (refine hK _ _ ?_; clear hK) | refine WC.region ?_ | (apply WL.opG; (focus (first | exact wN | (apply SYG.yes; (exact wY); ((first | (apply SY.call (c0) Tryz.call11; (exact aD)) | (apply SY.call (c1) Tryz.call44; (exact aD)) | ((first | apply SY.move | apply SY.assign | apply SY.eql) <;> (exact oD)) | (apply SY.load; (exact tD); (exact oD)) | (apply SY.pickT; (exact oD); (with_reducible rfl); (exact oD)) | (apply SY.box; (exact oD); (exact hD)) | fail); all_goals infer_instance)))); dsimp only [setD, z0, z1]) | refine WC.ret ?_)); all_goals (first | ((repeat clear hK); (repeat clear Kx))))
    all_goals first | (exfalso; omega) | ((refine ⟨trivial, _, rfl, ?_⟩; exact fD); try rfl)
end Go.Proofs.YtjbepoofigokjaaGreat
namespace Go.Proofs.YtjbepoofigokjaaGreat
open Go.RowKit
set_option linter.unusedSimpArgs false

set_option maxHeartbeats 2000000
set_option maxRecDepth 100000
theorem goodK_of {l : Cx} (h : goodK l = true) : GoodX l ∧ wholeN l 8 ≤ 260 ∧ few32 l = true := by
  unfold goodK at h
  rw [Bool.and_eq_true, decide_eq_true_eq] at h
  exact ⟨goodX_iff.1 h.2, few_sizes h.1 h.2, h.1⟩
end Go.Proofs.YtjbepoofigokjaaGreat
namespace Go.Proofs.YtjbepoofigokjaaGreat
theorem sub_one {l2 : List Vx} {v : Vx} (h : l2.Sublist [v]) : l2 = [] ∨ l2 = [v] := by
  cases h with
  | cons _ h => exact .inl (List.sublist_nil.1 h)
  | cons_cons _ h => exact .inr (by rw [List.sublist_nil.1 h])
theorem last_of {v : Vx} : ∀ {s : List Vx}, Asc s → v ∈ s → (∀ u ∈ s, u ≠ v → cmpV u v < 0) → ∃ t, s = t ++ [v] ∧ v ∉ t
  | [], _, h, _ => by cases h
  | a :: s, hs, hv, hm => by
    unfold Asc at hs
    rw [List.pairwise_cons] at hs
    by_cases e : a = v
    · subst e
      cases s with
      | nil => exact ⟨[], rfl, by simp⟩
      | cons b s =>
        have h1 := hs.1 b (List.mem_cons_self ..)
        have hne : b ≠ a := fun q => by subst q; rw [cmpV_irr] at h1; omega
        have h2 := hm b (by simp) hne
        have := cmpV_trans h1 h2
        rw [cmpV_irr] at this
        omega
    · have hv' : v ∈ s := by
        rcases List.mem_cons.1 hv with q | q
        · exact absurd q.symm e
        · exact q
      obtain ⟨t, rfl, hn⟩ := last_of hs.2 hv' fun u hu => hm u (List.mem_cons_of_mem _ hu)
      exact ⟨a :: t, rfl, fun q => by
        rcases List.mem_cons.1 q with q | q
        · exact e q.symm
        · exact hn q⟩
theorem cone_lt {v : Vx} {t' t : List Vx} (h : t'.Sublist t) (hl : t'.length + 1 = t.length) (ha : Asc (t ++ [v])) : cmpL t (t' ++ [v]) < 0 := by
  induction h with
  | slnil => simp at hl
  | @cons t' t a h ih =>
    rw [List.length_cons] at hl
    obtain rfl := h.eq_of_length (by omega)
    unfold Asc at ha
    rw [List.cons_append, List.pairwise_cons] at ha
    cases t' with
    | nil =>
      have h1 := ha.1 v (by simp)
      show (if cmpV a v = 0 then _ else cmpV a v) < 0
      rw [if_neg (by omega)]; exact h1
    | cons b t' =>
      have h1 := ha.1 b (by simp)
      show (if cmpV a b = 0 then _ else cmpV a b) < 0
      rw [if_neg (by omega)]; exact h1
  | @cons_cons t' t a h ih =>
    rw [List.length_cons, List.length_cons] at hl
    unfold Asc at ha
    rw [List.cons_append, List.pairwise_cons] at ha
    rw [List.cons_append, cmpL_cons]
    exact ih (by omega) ha.2
structure ConeX (l : Cx) (v : Vx) : Prop where
  good : GoodX l
  ne : l ≠ []
  top : ∀ s ∈ l, v ∈ s ∧ ∀ u ∈ s, u ≠ v → cmpV u v < 0
section
variable {l : Cx} {v : Vx} (C : ConeX l v)
include C
theorem ConeX.last {s : List Vx} (hs : s ∈ l) : ∃ t, s = t ++ [v] ∧ v ∉ t := last_of (C.good.asc s hs) (C.top s hs).1 (C.top s hs).2
theorem ConeX.pair {t : List Vx} (hs : t ++ [v] ∈ l) (_hn : v ∉ t) (h0 : t ≠ []) : (t, t ++ [v]) ∈ pairsC l := by
  have hp : 0 < t.length := List.length_pos_iff.2 h0
  refine pairs_mem.2 ⟨hs, by simp; omega, (subsV_mem _ _ _).2 ⟨List.sublist_append_left _ _, by simp⟩, ?_⟩
  unfold abvC
  have h1 : ∀ f ∈ l.filter (fun f => insideV t f), f = t ++ [v] := fun f hf => by
    obtain ⟨f1, f2⟩ := List.mem_filter.1 hf
    refine (inside_anti C.good hs f1 (inside_mem.2 fun u hu => ?_)).symm
    rcases List.mem_append.1 hu with q | q
    · exact inside_mem.1 f2 u q
    · rw [List.mem_singleton.1 q]; exact (C.top f f1).1
  have h2 : (l.filter fun f => insideV t f).length ≤ [t ++ [v]].length := List.Nodup.length_le_of_subset (C.good.2.1.nodup.filter _) fun f hf => by rw [h1 f hf]; exact List.mem_singleton_self _
  have h3 : 0 < (l.filter fun f => insideV t f).length := List.length_pos_of_mem (List.mem_filter.2 ⟨hs, inside_mem.2 fun u hu => List.mem_append_left _ hu⟩)
  rw [List.length_singleton] at h2
  show (l.filter fun f => insideV t f).length = 1
  omega
theorem ConeX.head {x : Cl} {m : List Cl} (hp : pairsC l = x :: m) : v ∉ x.1 ∧ x.2 = x.1 ++ [v] := by
  have hm : x ∈ pairsC l := by rw [hp]; exact List.mem_cons_self ..
  have hx := pair_ok C.good hm
  obtain ⟨t, ht, hn⟩ := C.last hx.mem
  have hln := hx.len
  have hsub := hx.sub
  have hlt : x.2.length = t.length + 1 := by rw [ht]; simp
  rw [ht] at hsub
  obtain ⟨l1, l2, e, s1, s2⟩ := List.sublist_append_iff.1 hsub
  by_cases hv : v ∈ x.1
  · have hl2 : l2 = [v] := by
      rcases sub_one s2 with q | q
      · subst q
        rw [List.append_nil] at e
        rw [e] at hv
        exact absurd (s1.subset hv) hn
      · exact q
    subst hl2
    have hl1 : l1.length + 1 = t.length := by
      have := congrArg List.length e
      rw [List.length_append, List.length_singleton] at this
      omega
    have hc := cone_lt s1 hl1 (by rw [← ht]; exact C.good.asc _ hx.mem)
    rw [← e] at hc
    have hmem := C.pair (t := t) (by rw [← ht]; exact hx.mem) hn (fun q => by subst q; simp at hl1)
    rw [hp] at hmem
    have hasc := pairs_asc C.good
    rw [hp] at hasc
    unfold AscK at hasc
    rw [List.pairwise_cons] at hasc
    rcases List.mem_cons.1 hmem with q | q
    · exact absurd hv (by rw [← q]; exact hn)
    · exact absurd hc (cmp_asym (hasc.1 _ q))
  · refine ⟨hv, ?_⟩
    have hl2 : l2 = [] := by
      rcases sub_one s2 with q | q
      · exact q
      · subst q; exact absurd (by rw [e]; simp) hv
    subst hl2
    rw [List.append_nil] at e
    subst e
    rw [ht, s1.eq_of_length (by omega)]
theorem ConeX.left {x : Cl} {m : List Cl} (hp : pairsC l = x :: m) (hw : wholeN l 8 ≤ 4098) : ConeX (leftC l x) v := by
  have hm : x ∈ pairsC l := by rw [hp]; exact List.mem_cons_self ..
  have hx := pair_ok C.good hm
  obtain ⟨hv, e⟩ := C.head hp
  have p1 := chk_len hx.chk1
  refine ⟨left_good C.good hx hw, fun q => ?_, fun s hs => ?_⟩
  · have h1 := (left_has C.good hx (asc_one v)).2 ⟨hasC_iff.2 ⟨x.2, hx.mem, inside_mem.2 fun u hu => by rw [List.mem_singleton.1 hu, e]; simp⟩, fun q => hv (by rw [← q]; simp), fun q => by
      have := congrArg List.length q
      rw [e, List.length_append, List.length_singleton] at this
      have h1 : [v].length = 1 := rfl
      omega⟩
    rw [q] at h1
    cases h1
  · rcases List.mem_append.1 (maxC_mem.1 hs).1 with h | h
    · exact C.top s (List.mem_filter.1 h).1
    · obtain ⟨h1, h2⟩ := List.mem_filter.1 h
      obtain ⟨h3, h4⟩ := (subsV_mem _ _ _).1 h1
      refine ⟨Classical.byContradiction fun hn => ?_, fun u hu hne => (C.top x.2 hx.mem).2 u (h3.subset hu) hne⟩
      rw [e] at h3 h4
      obtain ⟨l1, l2, e1, s1, s2⟩ := List.sublist_append_iff.1 h3
      have hl2 : l2 = [] := by
        rcases sub_one s2 with q | q
        · exact q
        · subst q; exact absurd (by rw [e1]; simp) hn
      subst hl2
      rw [List.append_nil] at e1
      subst e1
      refine of_decide_eq_true h2 (s1.eq_of_length ?_)
      rw [h4]; simp
theorem ConeX.point (hp : pairsC l = []) : l = [[v]] := by
  have h1 : ∀ s ∈ l, s = [v] := fun s hs => by
    obtain ⟨t, rfl, hn⟩ := C.last hs
    by_cases h0 : t = []
    · subst h0; rfl
    · have := C.pair hs hn h0
      rw [hp] at this
      cases this
  have h2 : l.length ≤ [[v]].length := List.Nodup.length_le_of_subset C.good.2.1.nodup fun s hs => by rw [h1 s hs]; exact List.mem_singleton_self _
  have h3 := List.length_pos_iff.2 C.ne
  rw [List.length_singleton] at h2
  obtain ⟨s, rfl⟩ := List.length_eq_one_iff.1 (show l.length = 1 by omega)
  rw [h1 s (List.mem_singleton_self s)]
end
theorem cone_red : ∀ (n : Nat) {l : Cx} {v : Vx}, ConeX l v → wholeN l 8 ≤ 4098 → ConeX (redC n l).1 v
  | 0, _, _, C, _ => C
  | n + 1, l, v, C, hw => by
    cases hp : pairsC l with
    | nil => rw [redC_nil hp]; exact C
    | cons x t =>
      have hx := pair_ok C.good (x := x) (by rw [hp]; exact List.mem_cons_self ..)
      have h2 := left_two C.good hx
      rw [redC_cons hp]
      exact cone_red n (C.left hp hw) (by omega)
theorem whole_point (v : Vx) : wholeN [[v]] 8 = 1 := rfl
theorem cone_yes {l : Cx} {v : Vx} (C : ConeX l v) (hw : wholeN l 8 ≤ 4096) : (reducedC l).1 = [[v]] ∧ 2 * (reducedC l).2.length + 1 = wholeN l 8 := by
  have R := red_ok C.good hw
  have C2 : ConeX (reducedC l).1 v := cone_red 4096 C (by omega)
  have h := C2.point R.ends
  have h2 := R.whole
  rw [h, whole_point] at h2
  exact ⟨h, by omega⟩
end Go.Proofs.YtjbepoofigokjaaGreat
namespace Go.Proofs.YtjbepoofigokjaaGreat
abbrev apx : Vx := (7, 1048576)
theorem apx_last {u : Vx} (h : rngV u = true) (hne : u ≠ apx) : cmpV u apx < 0 := by
  unfold rngV at h
  simp only [Bool.and_eq_true, decide_eq_true_eq] at h
  unfold cmpV
  obtain ⟨a, b⟩ := u
  simp only at h ⊢
  by_cases h1 : a < 7
  · rw [if_pos h1]; decide
  · have ha : a = 7 := by omega
    subst ha
    have hb : b ≠ 1048576 := fun e => hne (by rw [e])
    rw [if_neg (by decide), if_neg (by decide), if_pos (by omega)]; decide
theorem dim_le {a : Cx} {n : Int} (h0 : -1 ≤ n) (h : ∀ s ∈ a, (s.length : Int) - 1 ≤ n) : dimC a ≤ n := by
  unfold dimC
  have : ∀ (l : Cx) (m : Int), m ≤ n → (∀ s ∈ l, (s.length : Int) - 1 ≤ n) → l.foldl (fun m s => if m < (s.length : Int) - 1 then (s.length : Int) - 1 else m) m ≤ n := fun l => by
    induction l with
    | nil => intro m hm _; exact hm
    | cons s l ih =>
      intro m hm hl
      rw [List.foldl_cons]
      refine ih _ ?_ fun t ht => hl t (List.mem_cons_of_mem _ ht)
      split
      · exact hl s (List.mem_cons_self ..)
      · exact hm
  exact this a (-1) h0 h
theorem good_apx : GoodX [[apx]] := goodX_iff.1 (by decide)
theorem pts_len {l : Cx} (G : GoodX l) {s : List Vx} (hs : s ∈ l) : s.length ≤ (ptsC l).length :=
  List.Nodup.length_le_of_subset (asc_nd (G.asc s hs)) fun _ hv => ptsC_mem.2 ⟨s, hs, hv⟩
structure ConeOk (l J : Cx) : Prop where
  join : joinP l [[apx]] = (J, 0)
  cone : ConeX J apx
  whole : wholeN J 8 ≤ 4096
theorem pow_le {l : Cx} (h : ∀ s ∈ l, s.length ≤ 8) : powN l ≤ 256 * l.length := by
  induction l with
  | nil => exact Nat.zero_le _
  | cons s l ih =>
    have h1 := ih fun t ht => h t (List.mem_cons_of_mem _ ht)
    have h2 : 2 ^ s.length ≤ 2 ^ 8 := Nat.pow_le_pow_right (by decide) (h s (List.mem_cons_self ..))
    have e : powN (s :: l) = 2 ^ s.length + powN l := by unfold powN; rw [List.map_cons, List.sum_cons]
    rw [e, List.length_cons]
    omega
theorem cone_ok {l : Cx} (G : GoodX l) (hl : l.length ≤ 12) (h6 : (ptsC l).length ≤ 6) (hv : apx ∉ ptsC l) : ∃ J, ConeOk l J := by
  have ha : twoC l [[apx]] = 0 := two_gd G good_apx
  by_cases h0 : l.length = 0
  · obtain rfl : l = [] := List.eq_nil_of_length_eq_zero h0
    refine ⟨[[apx]], by decide, ⟨good_apx, by simp, fun s hs => ?_⟩, by decide⟩
    obtain rfl := List.mem_singleton.1 hs
    exact ⟨List.mem_singleton_self _, fun u hu hne => absurd (List.mem_singleton.1 hu) hne⟩
  · have hap : Apart l [[apx]] := fun s hs t ht v hv1 hv2 => by
      obtain rfl := List.mem_singleton.1 ht
      obtain rfl := List.mem_singleton.1 hv2
      exact hv (ptsC_mem.2 ⟨s, hs, hv1⟩)
    have hd : dimC l ≤ 5 := dim_le (by decide) fun s hs => by have := pts_len G hs; omega
    have hd2 : dimC [[apx]] = 0 := by decide
    have hj : joinP l [[apx]] = (maxC (prodC l [[apx]]), 0) := by
      unfold joinP
      rw [if_neg (by omega), if_neg (by rintro (h | h); exact h0 h; cases h), if_neg (apart_iff.2 hap), if_neg (by rw [List.length_singleton]; omega)]
    have hc := prod_chk G good_apx (by omega : dimC l + dimC [[apx]] + 2 ≤ 8)
    have hlen : (maxC (prodC l [[apx]])).length ≤ 12 := by
      have h1 := List.Nodup.length_le_of_subset (maxC_asc (prodC l [[apx]])).nodup fun x hx => (maxC_mem.1 hx).1
      rw [prodC_len, List.length_singleton] at h1
      omega
    have GJ : GoodX (maxC (prodC l [[apx]])) := good_max (fun s hs _ => hc s hs) (by omega)
    have htop : ∀ x ∈ prodC l [[apx]], apx ∈ x ∧ ∀ u ∈ x, u ≠ apx → cmpV u apx < 0 := fun x hx => by
      obtain ⟨s, hs, t, ht, rfl⟩ := prodC_mem.1 hx
      obtain rfl := List.mem_singleton.1 ht
      refine ⟨mem_allV.2 (.inr (List.mem_singleton_self _)), fun u hu hne => ?_⟩
      rcases mem_allV.1 hu with h | h
      · exact apx_last ((chkV_zero.1 (G.2.2.1 s hs)).2.2.1 u h) hne
      · exact absurd (List.mem_singleton.1 h) hne
    refine ⟨_, hj, ⟨GJ, fun e => ?_, fun s hs => htop s (maxC_mem.1 hs).1⟩, Nat.le_trans (whole_pow GJ.2.2.1) (Nat.le_trans (pow_le fun s hs => (chk_len (GJ.2.2.1 s hs)).2) (by omega))⟩
    have hne : prodC l [[apx]] ≠ [] := fun q => by
      have := congrArg List.length q
      rw [prodC_len, List.length_singleton, List.length_nil] at this
      omega
    obtain ⟨x, hx⟩ := List.exists_mem_of_ne_nil _ hne
    have h1 := max_has hc x
    rw [e, has_self hx] at h1
    cases h1
theorem cone_coll {l J : Cx} (K : ConeOk l J) : ∃ m, collK J = (1, m, 0) ∧ 2 * m.length + 1 = wholeN J 8 := by
  obtain ⟨h1, h2⟩ := cone_yes K.cone K.whole
  refine ⟨(reducedC J).2, ?_, h2⟩
  have hr : redK J = ((reducedC J).1, (reducedC J).2, 0) := by
    unfold redK
    rw [if_neg (by rw [goodX_iff.2 K.cone.good]; omega), if_neg (by have := K.whole; omega)]
  unfold collK
  rw [hr, h1, if_neg (fun h => h rfl), if_pos (by exact ⟨rfl, rfl⟩)]
end Go.Proofs.YtjbepoofigokjaaGreat
