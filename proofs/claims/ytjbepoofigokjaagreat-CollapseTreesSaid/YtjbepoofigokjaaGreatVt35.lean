/-
  Part 35 of the texts that the claims of this seat lean on: walks of the program's functions by contracts over symbolic frames, and plain laws of what they compute. No condition.
-/
import Derived.Test.YtjbepoofigokjaaGreatVt11
import Derived.Test.YtjbepoofigokjaaGreatVt22
import Derived.Test.YtjbepoofigokjaaGreatVt23
import Derived.Test.YtjbepoofigokjaaGreatVt24
import Derived.Test.YtjbepoofigokjaaGreatVt34
set_option linter.unusedVariables false
set_option linter.unusedSimpArgs false
set_option linter.unusedSectionVars false
namespace Go.Proofs.YtjbepoofigokjaaGreat
open Go.RowKit
set_option linter.unusedSimpArgs false

set_option maxHeartbeats 2000000
set_option maxRecDepth 100000
theorem pair32_p (a b : List Vx) : Fn Tryz.prog 42 [dS Verts a, dS Verts b] (dS Col (a, b)) := by
  refine Fn.introC1 tyCo Tryz.func42 rfl rfl ?_
  simp only [Tryz.ntmps42, List.length_cons, List.length_nil, Nat.reduceAdd, Nat.reduceSub, List.replicate_succ, List.replicate_zero, List.cons_append, List.nil_append]
  ((repeat' (first | (apply WL.opN; exact yF; dsimp only [setD, z0, z1]) | refine WL.nil ?_ | refine WC.seqK fun Kx hK => ?_ | (refine hK _ _ ?_; clear hK) | refine WC.region ?_ |  (apply WL.alloc tzCo; exact shape_Z2; (intro b4; dsimp only [setD, z0, z1])) |  (refine WL.storeF tyCo rfl (OpD.t rfl) shape_P ?_; dsimp only [setD, z0, z1]) | (apply WL.opN; (focus ((first | (apply SY.mkP colT <;> exact OpD.t rfl) | fail); all_goals infer_instance)); dsimp only [setD, z0, z1]) | refine WC.ret ?_)); all_goals (first | ((repeat clear hK); (repeat clear Kx))))
  (refine ⟨trivial, _, rfl, ?_⟩; exact fD)
theorem simplex32_p (cs : List Int) (hl : cs.length ≤ 100) : Fn Tryz.prog 41 [dS Ints cs] (dS Verts (cs.map fun c => (c, 0))) := by
  (refine Fn.intro1 Tryz.func41 rfl rfl ?_; simp only [Tryz.ntmps41, List.length_cons, List.length_nil, Nat.reduceAdd, Nat.reduceSub, List.replicate_succ, List.replicate_zero, List.cons_append, List.nil_append])
  (repeat' (first | (apply WL.opN; exact yF; dsimp only [setD, z0, z1]) | refine WL.nil ?_ | refine WC.seqK fun Kx hK => ?_ | (refine hK _ _ ?_; clear hK) | refine WC.region ?_ | (apply WL.opN; (focus ((first | (apply SY.len; (exact oD); (exact nD); (exact uD)) | fail); all_goals infer_instance)); dsimp only [setD, z0, z1]) | refine WC.block ?_))
  refine WC.nilRowK 63 2 (by decide) RV ?_
  (refine WC.loopU (X := Nat × Value × List Vx) (fun x => [(8, dI (x.1 : Int)), (3, dX x.2.1), (5, dA), (9, dA), (10, dA), (11, dA), (12, dA), (13, dA), (14, dA), (15, dA), (16, dA), (17, dA)]) (fun x => [hRowK x.2.1 63 2 RV x.2.2]) (fun x => cs.length - x.1) (fun x => x.1 ≤ cs.length ∧ x.2.2 = (cs.take x.1).map fun c => (c, 0)) (0, .slice none 0 0, []) ?start ?frame0 ?objs0 ?round)
  case start => exact ⟨Nat.zero_le _, rfl⟩
  case frame0 => ((try dsimp only [upds, z0, z1]); repeat (first | exact LeF.nil | refine LeF.co (k := ?_)))
  case objs0 => rfl
  case round =>
    rintro ⟨k, v, o⟩ ⟨h1, h2⟩
    simp only at h1 h2
    have hol : o.length ≤ 100 := by rw [h2, List.length_map, List.length_take]; omega
    dsimp only [upds, z0, z1]
    by_cases hk : k < cs.length
    · ((repeat' (first | (apply WL.opN; exact yF; dsimp only [setD, z0, z1]) | refine WL.nil ?_ | refine WC.seqK fun Kx hK => ?_ | (refine hK _ _ ?_; clear hK) | refine WC.region ?_ | ((first | apply WL.pushK | apply WL.push1); (exact eD); exact OpD.t rfl; (exact oD); (intro _; exact hD); (exact (by simp)); (exact (by simp)); (first | exact ⟨by decide, by decide⟩ | skip); decide; (exact lD); (intro _; dsimp only [setD, z0, z1]); all_goals (try infer_instance)) | (apply WL.opN; (focus ((first | (apply SY.mkV0 vxT; exact OpD.t rfl) | ((first | apply SY.move | apply SY.assign | apply SY.lss) <;> (exact oD)) | ((first | apply SY.add) <;> first | exact oD | omega) | (apply SY.ix; (exact eD); (exact oD); (exact oD); exact kD) | fail); all_goals infer_instance)); dsimp only [setD, z0, z1]) | (apply WC.condD; (exact oD); all_goals (intro h; try exact xD)) | refine WC.skip ?_ | refine WC.block ?_ | refine ThenD.n ?_)); all_goals (first | ((repeat clear hK); (repeat clear Kx))))
      all_goals first | (exfalso; omega) | skip
      rename_i v'
      (refine ⟨(k + 1, v', o ++ [(cs[k], 0)]), ?_, by first | omega | (simp only; omega), rfl, ?_⟩; rotate_left; ((try dsimp only [upds, z0, z1]); repeat (first | exact LeF.nil | refine LeF.co (k := ?_))); (try dsimp only))
      exact ⟨by show k + 1 ≤ _; omega, by show o ++ _ = _; rw [take_snoc' hk, List.map_append, h2]; rfl⟩
    · rw [List.take_of_length_le (by omega)] at h2
      subst h2
      ((repeat' (first | (apply WL.opN; exact yF; dsimp only [setD, z0, z1]) | refine WL.nil ?_ | refine WC.seqK fun Kx hK => ?_ | (refine hK _ _ ?_; clear hK) | (refine Kont.skip ?_; clear hK) | refine WC.region ?_ | (apply WL.opN; (focus ((first | ((first | apply SY.move | apply SY.assign | apply SY.lss) <;> (exact oD)) | fail); all_goals infer_instance)); dsimp only [setD, z0, z1]) | (apply WC.condD; (exact oD); all_goals (intro h; try exact xD)) | refine WC.ret ?_ | refine WC.exit ?_)); all_goals (first | ((repeat clear hK); (repeat clear Kx))))
      all_goals first | (exfalso; omega) | skip
      (refine ⟨trivial, _, rfl, ?_⟩; exact fD)
abbrev wa : Vx := (0, 0)
abbrev wb : Vx := (1, 0)
abbrev wc : Vx := (2, 0)
abbrev wd : Vx := (3, 0)
abbrev exK : Cx := [[wa, wb, wc], [wc, wd]]
abbrev exW : List Cl := [([wa, wb], [wa, wb, wc]), ([wa], [wa, wc]), ([wb], [wb, wc]), ([wc], [wc, wd])]
abbrev exA : List Cl := [([wa, wb], [wa, wb, wc]), ([wa, wc], [wa, wb, wc]), ([wb, wc], [wa, wb, wc]), ([wd], [wc, wd])]
theorem k_chk : chkC exK = 0 := by decide
theorem k_free : freeK exK = (exA, 0) := by decide
theorem k_step : stepK exK ([wa, wb], [wa, wb, wc]) = ([[wa, wc], [wb, wc], [wc, wd]], 0) := by decide
theorem k_whole : wholeN exK 8 = 9 := by decide
theorem k_redC : redC 5 exK = ([[wd]], exW) := by decide
theorem k_circ : pairsC [[wa, wb], [wa, wc], [wb, wc]] = [] := by decide
theorem redC_stop : ∀ (n m : Nat) (l : Cx), pairsC (redC n l).1 = [] → redC (n + m) l = redC n l
  | 0, m, l, h => by
    have h' : pairsC l = [] := h
    rw [redC_nil h', redC_nil h']
  | n + 1, m, l, h => by
    cases hp : pairsC l with
    | nil => rw [redC_nil hp, redC_nil hp]
    | cons x t =>
      rw [redC_cons hp] at h ⊢
      rw [show n + 1 + m = (n + m) + 1 by omega, redC_cons hp, redC_stop n m _ h]
theorem k_red : redK exK = ([[wd]], exW, 0) := by
  have h : reducedC exK = ([[wd]], exW) := by
    show redC (5 + 4091) exK = _
    rw [redC_stop 5 4091 exK (by rw [k_redC]; decide), k_redC]
  unfold redK
  rw [k_chk, k_whole, h]
  rfl
theorem k_coll : collK exK = (1, exW, 0) := by
  unfold collK
  rw [k_red]
  rfl
theorem k_red2 : redK [[wa, wb], [wa, wc], [wb, wc]] = ([[wa, wb], [wa, wc], [wb, wc]], [], 0) := by
  have h : reducedC [[wa, wb], [wa, wc], [wb, wc]] = ([[wa, wb], [wa, wc], [wb, wc]], []) := redC_nil k_circ 4096
  unfold redK
  rw [h, if_neg (by decide), if_neg (by decide)]
theorem k_coll2 : collK [[wa, wb], [wa, wc], [wb, wc]] = (2, [], 0) := by
  unfold collK
  rw [k_red2, if_neg (by decide), if_neg (by decide), if_pos (.inr (by decide))]
theorem k_ver : verK exK exW [[wd]] = 0 := by decide
set_option maxHeartbeats 32000000 in
theorem awake32_p : Fn Tryz.prog 12 [] (dB true) := by
  have c1 := free32_p exK
  rw [k_free] at c1
  have c2 := step32_p exK ([wa, wb], [wa, wb, wc]) fun _ => by rw [k_whole]; decide
  rw [k_step] at c2
  have c3 := reduce32_p exK
  rw [k_red] at c3
  have c4 := coll32_p exK
  rw [k_coll] at c4
  have c5 := coll32_p [[wa, wb], [wa, wc], [wb, wc]]
  rw [k_coll2] at c5
  have c6 := verify32_p exK exW [[wd]] fun _ => by rw [k_whole]; decide
  rw [k_ver] at c6
  have s012 : Fn Tryz.prog 41 [dS Ints [0, 1, 2]] (dS Verts [wa, wb, wc]) := simplex32_p [0, 1, 2] (by decide)
  have s01 : Fn Tryz.prog 41 [dS Ints [0, 1]] (dS Verts [wa, wb]) := simplex32_p [0, 1] (by decide)
  have s02 : Fn Tryz.prog 41 [dS Ints [0, 2]] (dS Verts [wa, wc]) := simplex32_p [0, 2] (by decide)
  have s12 : Fn Tryz.prog 41 [dS Ints [1, 2]] (dS Verts [wb, wc]) := simplex32_p [1, 2] (by decide)
  have s23 : Fn Tryz.prog 41 [dS Ints [2, 3]] (dS Verts [wc, wd]) := simplex32_p [2, 3] (by decide)
  have s0 : Fn Tryz.prog 41 [dS Ints [0]] (dS Verts [wa]) := simplex32_p [0] (by decide)
  have s1 : Fn Tryz.prog 41 [dS Ints [1]] (dS Verts [wb]) := simplex32_p [1] (by decide)
  have s2 : Fn Tryz.prog 41 [dS Ints [2]] (dS Verts [wc]) := simplex32_p [2] (by decide)
  have s3 : Fn Tryz.prog 41 [dS Ints [3]] (dS Verts [wd]) := simplex32_p [3] (by decide)
  have p : ∀ a b : List Vx, Fn Tryz.prog 42 [dS Verts a, dS Verts b] (dS Col (a, b)) := pair32_p
  have q : ∀ l : List Cl, Fn Tryz.prog 15 [dS Cols l, dS Cols l] (dB true) := fun l => by
    have := sameKs_c l l
    rwa [decide_eq_true rfl] at this
  have q2 := sameC_self
  refine Fn.intro1 Tryz.func12 rfl rfl ?_
  show WC _ _ _ (List.replicate 170 (dX undef)) []
  simp only [List.replicate_succ, List.replicate_zero]
  ((repeat' (first |  (refine WC.drawM (fun _ => True) 12 1 [(0, false), (1, false), (2, false), (3, false), (4, false), (5, false), (6, false), (7, false), (8, false), (9, false), (10, true), (11, true)] [true, true, true, true, true, true, true, true, true, true, true, true, false] (by kernel_rfl) (by kernel_rfl) (by kernel_rfl) rfl (trivial) ?_) |  (first | refine WA.one (S := [true, true, true, true, true, true, true, true, true, true, true, true, false]) (i := 12) (by kernel_rfl) rfl ?_ | refine WA.nil (S := [true, true, true, true, true, true, true, true, true, true, true, true, true]) (by kernel_rfl) ?_) |  (refine WM.writeL rfl (SW.alloc tzC (shape_C0 rfl)) (fun _ => trivial) fun b4 => ?_; dsimp only [setD, z0, z1, List.cons_append, List.nil_append]) |  (refine WM.writeL rfl (SW.storeK tyC (OpD.t rfl) (OpD.t rfl) shape_C) (fun _ => trivial) fun _ => ?_; dsimp only [setD, z0, z1, List.cons_append, List.nil_append]) |  (refine WC.freezeC (t := 4) rfl ?_; dsimp only [z0, z1]) | (refine WM.nil ?_) | (apply WM.readL rfl; (focus (intro c hcc; apply SYG.yes; (exact want_none rfl); ((first | (apply SY.call (s012) Tryz.call41; exact ArgsD.cons (OpD.t rfl) (ArgsD.nil)) | (apply SY.call (s01) Tryz.call41; exact ArgsD.cons (OpD.t rfl) (ArgsD.nil)) | (apply SY.call (s02) Tryz.call41; exact ArgsD.cons (OpD.t rfl) (ArgsD.nil)) | (apply SY.call (s12) Tryz.call41; exact ArgsD.cons (OpD.t rfl) (ArgsD.nil)) | (apply SY.call (s23) Tryz.call41; exact ArgsD.cons (OpD.t rfl) (ArgsD.nil)) | (apply SY.call (s0) Tryz.call41; exact ArgsD.cons (OpD.t rfl) (ArgsD.nil)) | (apply SY.call (s1) Tryz.call41; exact ArgsD.cons (OpD.t rfl) (ArgsD.nil)) | (apply SY.call (s2) Tryz.call41; exact ArgsD.cons (OpD.t rfl) (ArgsD.nil)) | (apply SY.call (s3) Tryz.call41; exact ArgsD.cons (OpD.t rfl) (ArgsD.nil)) | (apply SY.call (p _ _) Tryz.call42; exact ArgsD.cons (OpD.t rfl) (ArgsD.cons (OpD.t rfl) (ArgsD.nil))) | (apply SY.call (c2) Tryz.call17; exact ArgsD.cons (OpD.t rfl) (ArgsD.cons (OpD.t rfl) (ArgsD.nil))) | ((first | apply SY.move | apply SY.assign | apply SY.eql | apply SY.neq) <;> (exact oD)) | (apply SY.load; (exact tD); (exact oD)) | (apply SY.build1'; (exact eD); ((try simp only [List.map_cons, List.map_nil]); (repeat (first | exact ElsD.nl | (apply ElsD.cn; (first | exact OpD.t rfl | exact OpD.i | exact OpD.b | exact OpD.tle rfl (by first | exact Dat.le_nil | exact Dat.le_nilK (by decide)) | exact ⟨Dat.le_nil⟩ | exact ⟨Dat.le_nilK (by decide)⟩))))); rfl; rfl; (intro _; first | exact shape_K | exact shape_I | exact shape_A | exact shape_B); (exact (by simp))) | (apply SY.extract; (exact oD); rfl) | fail); all_goals infer_instance))); dsimp only [setD, z0, z1]) | ((first | apply WL.opN | apply WD.opN); exact yF; dsimp only [setD, z0, z1]) | refine WL.nil ?_ | refine WD.nil ?_ | refine WC.seqK fun Kx hK => ?_ | (refine hK _ _ ?_; clear hK) | refine WC.region ?_ | (apply WC.draw; kernel_rfl; kernel_rfl) | (apply WL.alloc; (first | exact tzV | exact tzC); (first | exact shape_X rfl | exact shape_XV | exact shape_C0 rfl); (intro _; dsimp only [setD, z0, z1])) | (apply WL.storeF; (exact tD); rfl; (exact oD); (exact hD); dsimp only [setD, z0, z1]) | ((first | apply WL.opG | apply WD.op); (focus (first | exact wN | (apply SYG.yes; (exact wY); ((first | (apply SY.call (s012) Tryz.call41; exact ArgsD.cons (OpD.t rfl) (ArgsD.nil)) | (apply SY.call (s01) Tryz.call41; exact ArgsD.cons (OpD.t rfl) (ArgsD.nil)) | (apply SY.call (s02) Tryz.call41; exact ArgsD.cons (OpD.t rfl) (ArgsD.nil)) | (apply SY.call (s12) Tryz.call41; exact ArgsD.cons (OpD.t rfl) (ArgsD.nil)) | (apply SY.call (s23) Tryz.call41; exact ArgsD.cons (OpD.t rfl) (ArgsD.nil)) | (apply SY.call (s0) Tryz.call41; exact ArgsD.cons (OpD.t rfl) (ArgsD.nil)) | (apply SY.call (s1) Tryz.call41; exact ArgsD.cons (OpD.t rfl) (ArgsD.nil)) | (apply SY.call (s2) Tryz.call41; exact ArgsD.cons (OpD.t rfl) (ArgsD.nil)) | (apply SY.call (s3) Tryz.call41; exact ArgsD.cons (OpD.t rfl) (ArgsD.nil)) | (apply SY.call (p _ _) Tryz.call42; exact ArgsD.cons (OpD.t rfl) (ArgsD.cons (OpD.t rfl) (ArgsD.nil))) | (apply SY.call (c1) Tryz.call13; exact ArgsD.cons (OpD.t rfl) (ArgsD.nil)) | (apply SY.call (c3) Tryz.call20; exact ArgsD.cons (OpD.t rfl) (ArgsD.nil)) | (apply SY.call (c4) Tryz.call22; exact ArgsD.cons (OpD.t rfl) (ArgsD.nil)) | (apply SY.call (c5) Tryz.call22; exact ArgsD.cons (OpD.t rfl) (ArgsD.nil)) | (apply SY.call (c6) Tryz.call27; exact ArgsD.cons (OpD.t rfl) (ArgsD.cons (OpD.t rfl) (ArgsD.cons (OpD.t rfl) (ArgsD.nil)))) | (apply SY.call (q _) Tryz.call15; exact ArgsD.cons (OpD.t rfl) (ArgsD.cons (OpD.t rfl) (ArgsD.nil))) | (apply SY.call (q2 _) Tryz.call19; exact ArgsD.cons (OpD.t rfl) (ArgsD.cons (OpD.t rfl) (ArgsD.nil))) | ((first | apply SY.move | apply SY.assign | apply SY.eql | apply SY.neq) <;> (exact oD)) | ((first | apply SY.add) <;> first | exact oD | omega) | (apply SY.load; (exact tD); (exact oD)) | (apply SY.len; (exact oD); (exact nD); (exact uD)) | (apply SY.mkC cpxT; exact OpD.t rfl) | (apply SY.build1'; (exact eD); ((try simp only [List.map_cons, List.map_nil]); (repeat (first | exact ElsD.nl | (apply ElsD.cn; (first | exact OpD.t rfl | exact OpD.i | exact OpD.b | exact OpD.tle rfl (by first | exact Dat.le_nil | exact Dat.le_nilK (by decide)) | exact ⟨Dat.le_nil⟩ | exact ⟨Dat.le_nilK (by decide)⟩))))); rfl; rfl; (intro _; first | exact shape_K | exact shape_I | exact shape_A | exact shape_B); (exact (by simp))) | (apply SY.buildE; (exact eD); ((try simp only [List.map_cons, List.map_nil]); (repeat (first | exact ElsD.nl | (apply ElsD.cn; (first | exact OpD.t rfl | exact OpD.i | exact OpD.b | exact OpD.tle rfl (by first | exact Dat.le_nil | exact Dat.le_nilK (by decide)) | exact ⟨Dat.le_nil⟩ | exact ⟨Dat.le_nilK (by decide)⟩))))); rfl; rfl; decide; (intro _; exact shape_P); (exact (by simp))) | (apply SY.pickT; (exact oD); (with_reducible rfl); (exact oD)) | (apply SY.pickF; (exact oD); (with_reducible rfl); (exact oD)) | (apply SY.extract; (exact oD); rfl) | fail); all_goals infer_instance)))); dsimp only [setD, z0, z1]) | ((first | refine WL.caseP rfl rfl rfl (fun h => ?_) (fun h => ?_) | refine WL.caseN rfl rfl rfl (fun h => ?_) (fun h => ?_) | refine WL.caseB rfl rfl rfl (fun h => ?_) (fun h => ?_) | refine WD.caseP rfl rfl rfl (fun h => ?_) (fun h => ?_) | refine WD.caseN rfl rfl rfl (fun h => ?_) (fun h => ?_) | refine WD.caseB rfl rfl rfl (fun h => ?_) (fun h => ?_)) <;> (first | (exfalso; first | omega | contradiction) | (dsimp only [z0, z1]))) | (apply WC.condN; (exact oD); all_goals (intro h; try exact xD)) | refine WC.skip ?_ | refine WC.ret ?_)); all_goals (first | ((repeat clear hK); (repeat clear Kx))))
  (refine ⟨trivial, _, rfl, ?_⟩; exact fD)
end Go.Proofs.YtjbepoofigokjaaGreat
namespace Go.Proofs.YtjbepoofigokjaaGreat
open Go.RowKit
set_option linter.unusedSimpArgs false

set_option maxHeartbeats 2000000
set_option maxRecDepth 100000
section
variable {P : Program}
def fin4 (t u v x : Nat) (r s q p : Dat) : Post := fun e fr hp => (match e with | .normal | .ret => True | _ => False) ∧ (∃ d, fr[t]? = some d ∧ FinD hp d r) ∧ (∃ d, fr[u]? = some d ∧ FinD hp d s) ∧ (∃ d, fr[v]? = some d ∧ FinD hp d q) ∧ ∃ d, fr[x]? = some d ∧ FinD hp d p
theorem results_tmp4' {fn : Func} {t u v x : Tmp} (h : fn.results = #[.tmp t, .tmp u, .tmp v, .tmp x]) (tmps : Array Value) (w : World) : (results fn tmps).run P w = .ok (.tuple #[tmps.getD t undef, tmps.getD u undef, tmps.getD v undef, tmps.getD x undef]) w := by
  simp [results, h]
theorem Fn.intro4 {f : FuncId} {fn : Func} {c : Code} {args : List Dat} {r s q p : Dat} {t u v x : Tmp} (hf : P.funcs[f]? = some fn) (hb : fn.body = some c) (hr : fn.results = #[.tmp t, .tmp u, .tmp v, .tmp x])
    (h : WC P (fin4 t u v x r s q p) c (args ++ List.replicate (fn.ntmps - args.length) (dX undef)) []) : Fn P f args (dT [r, s, q, p]) :=
  Fn.intro hf hb (fun e fr hp k => by
    obtain ⟨he, ⟨d, hd, hfin⟩, ⟨d', hd', hfin'⟩, ⟨d2, hd2, hfin2⟩, d3, hd3, hfin3⟩ := k
    refine ⟨by cases e <;> simp_all, fun {P0 B w0 w a} hh hf' => ⟨_, results_tmp4' hr _ _, [a.tmps.getD t undef, a.tmps.getD u undef, a.tmps.getD v undef, a.tmps.getD x undef], rfl, rfl, fun i e y he hx => ?_⟩⟩
    match i, he, hx with
    | 0, he, hx => cases he; cases hx; exact hfin.out hh (hf'.rd t d hd)
    | 1, he, hx => cases he; cases hx; exact hfin'.out hh (hf'.rd u d' hd')
    | 2, he, hx => cases he; cases hx; exact hfin2.out hh (hf'.rd v d2 hd2)
    | 3, he, hx => cases he; cases hx; exact hfin3.out hh (hf'.rd x d3 hd3)) h
end
theorem posG_at {V : Type} [DecidableEq V] : ∀ {D : List V} (_ : D.Nodup) (i : Nat) (h : i < D.length), posG D D[i] = i
  | y :: D, hn, 0, _ => posG_self
  | y :: D, hn, i + 1, h => by
    rw [List.nodup_cons] at hn
    have hi : i < D.length := by simpa using h
    show posG (y :: D) D[i] = i + 1
    rw [posG_ne fun e => hn.1 (by rw [e]; exact List.getElem_mem hi), posG_at hn.2 i hi]
def topN (L : List Int) (a : Int) : Int := L.foldl (fun m c => max m (c + 1)) a
theorem topN_le : ∀ (L : List Int) (a B : Int), (∀ c ∈ L, c + 1 ≤ B) → a ≤ B → topN L a ≤ B
  | [], a, B, _, h => h
  | c :: L, a, B, hc, h => topN_le L _ B (fun d hd => hc d (List.mem_cons_of_mem _ hd)) (by have := hc c (List.mem_cons_self ..); show max a (c + 1) ≤ B; omega)
theorem topN_ge : ∀ (L : List Int) (a : Int), a ≤ topN L a ∧ ∀ c ∈ L, c + 1 ≤ topN L a
  | [], a => ⟨Int.le_refl _, fun c h => by cases h⟩
  | c :: L, a => by
    obtain ⟨h1, h2⟩ := topN_ge L (max a (c + 1))
    refine ⟨by show a ≤ topN L (max a (c + 1)); omega, fun d hd => ?_⟩
    show d + 1 ≤ topN L (max a (c + 1))
    rcases List.mem_cons.1 hd with rfl | hd
    · omega
    · exact h2 d hd
theorem top_parts (l : Cx) : topN (compC l) 0 = (partsN l : Int) := by
  have h1 : ∀ c ∈ compC l, c + 1 ≤ (partsN l : Int) := fun c hc => by
    obtain ⟨s, hs, rfl⟩ := List.mem_map.1 hc
    have := num_lt hs
    omega
  refine Int.le_antisymm (topN_le _ _ _ h1 (by omega)) ?_
  obtain ⟨g1, g2⟩ := topN_ge (compC l) 0
  by_cases h0 : partsN l = 0
  · omega
  · have hi : partsN l - 1 < (distG (rootsC l)).length := by
      show partsN l - 1 < partsN l
      omega
    have hr := ((dist_inv (rootsC l)).2 _).1 (List.getElem_mem hi)
    obtain ⟨s, hs, he⟩ := List.mem_map.1 hr
    have hn : numC l s = partsN l - 1 := by
      unfold numC
      rw [he]
      exact posG_at (dist_inv (rootsC l)).1 _ hi
    have := g2 (numC l s : Int) (List.mem_map_of_mem (f := fun s => (numC l s : Int)) hs)
    omega
theorem comp_bnd (l : Cx) : ∀ c ∈ compC l, 0 ≤ c ∧ c < (l.length : Int) := fun c hc => by
  obtain ⟨s, hs, rfl⟩ := List.mem_map.1 hc
  have h1 := num_lt hs
  have h2 : partsN l ≤ l.length := by
    have := dist_len (rootsC l)
    unfold rootsC at this
    rw [List.length_map] at this
    exact this
  omega
def sizesN (l : Cx) : List Int := (List.range 8).map fun k => ((allC l (k + 1)).length : Int)
set_option maxHeartbeats 8000000 in
theorem count32_p (l : Cx) (G : GoodX l) (hw : wholeN l 8 ≤ 4096) : Fn Tryz.prog 34 [dS Cpx l] (dT [dS Ints (sizesN l), dI (eulS l 8), dI (partsN l : Int), dB true]) := by
  refine Fn.intro4 Tryz.func34 rfl rfl ?_
  simp only [Tryz.ntmps34, List.length_cons, List.length_nil, Nat.reduceAdd, Nat.reduceSub, List.replicate_succ, List.replicate_zero, List.cons_append, List.nil_append]
  have h0 := goodX_iff.2 G
  have c2 := euler27_p l
  rw [eul_whole G hw] at c2
  have c3 := components27_p l
  rw [show compP l = (compC l, 0) from if_neg (by omega)] at c3
  have hcl : (compC l).length = l.length := List.length_map ..
  have hll := G.1
  have hcb := comp_bnd l
  have htp := top_parts l
  (repeat' (first | (apply WL.opN; exact yF; dsimp only [setD, z0, z1]) | refine WL.nil ?_ | refine WC.seqK fun Kx hK => ?_ | (refine hK _ _ ?_; clear hK) | refine WC.region ?_ | (apply WL.opG; (focus (first | exact wN | (apply SYG.yes; (exact wY); ((first | (apply SY.box; (exact oD); (exact hD)) | fail); all_goals infer_instance)))); dsimp only [setD, z0, z1]) | refine WC.block ?_))
  refine WC.nilRow 3 RI ?_
  (refine WC.loopU (X := Nat × Value × List Int) (fun x => [(14, dI (x.1 : Int)), (2, dX x.2.1), (4, dI 0), (3, dA), (5, dA), (6, dA), (7, dA), (8, dA), (15, dA), (16, dA), (17, dA), (18, dA), (19, dA), (20, dA), (21, dA), (22, dA), (23, dA), (24, dA), (25, dA), (26, dA), (27, dA), (28, dA), (29, dA), (30, dA), (31, dA)]) (fun x => [hRow x.2.1 3 RI x.2.2]) (fun x => 8 - x.1) (fun x => x.1 ≤ 8 ∧ x.2.2 = ((List.range x.1).map fun k => ((allC l (k + 1)).length : Int))) (0, .slice none 0 0, []) ?start ?frame0 ?objs0 ?round)
  case start => exact ⟨Nat.zero_le _, rfl⟩
  case frame0 => ((try dsimp only [upds, z0, z1]); repeat (first | exact LeF.nil | refine LeF.co (k := ?_)))
  case objs0 => rfl
  case round =>
    rintro ⟨k, v, o⟩ ⟨q1, q2⟩
    simp only at q1 q2
    have hol : o.length ≤ 8 := by rw [q2, List.length_map, List.length_range]; exact q1
    dsimp only [upds, z0, z1]
    by_cases hk : k < 8
    · have hm := whole_mono l hk
      have c1 := simplices27_p l ((k + 1 : Nat) : Int)
      have et : (((k + 1 : Nat) : Int)).toNat = k + 1 := by omega
      have es : simplC l ((k + 1 : Nat) : Int) = (allC l (k + 1), 0) := by unfold simplC; rw [if_neg (by omega), if_neg (by omega), et, if_neg (by omega)]
      rw [es] at c1
      have e2 : (List.range (k + 1)).map (fun k => ((allC l (k + 1)).length : Int)) = o ++ [((allC l (k + 1)).length : Int)] := by rw [List.range_succ, List.map_append, ← q2]; rfl
      generalize allC l (k + 1) = A at *
      ((repeat' (first | (apply WL.opN; exact yF; dsimp only [setD, z0, z1]) | refine WL.nil ?_ | refine WC.seqK fun Kx hK => ?_ | (refine hK _ _ ?_; clear hK) | refine WC.region ?_ | ((first | apply WL.pushK | apply WL.push1); (exact eD); exact OpD.t rfl; (exact oD); (intro _; exact hD); (exact (by simp)); (exact (by simp)); (first | exact ⟨by decide, by decide⟩ | skip); decide; (exact lD); (intro _; dsimp only [setD, z0, z1]); all_goals (try infer_instance)) | (apply WL.opG; (focus (first | exact wN | (apply SYG.yes; (exact wY); ((first | (apply SY.call (c1) Tryz.call40; (exact aD)) | ((first | apply SY.move | apply SY.assign | apply SY.lss | apply SY.eql | apply SY.neq) <;> (exact oD)) | ((first | apply SY.add) <;> first | exact oD | omega) | (apply SY.len; (exact oD); (exact nD); (exact uD)) | (apply SY.extract; (exact oD); rfl) | fail); all_goals infer_instance)))); dsimp only [setD, z0, z1]) | (apply WC.condD; (exact oD); all_goals (intro h; try exact xD)) | (apply WC.condN; (exact oD); all_goals (intro h; try exact xD)) | refine WC.skip ?_ | refine WC.block ?_ | refine ThenD.n ?_)); all_goals (first | ((repeat clear hK); (repeat clear Kx))))
      all_goals first | (exfalso; omega) | skip
      rename_i v'
      (refine ⟨(k + 1, v', o ++ [(A.length : Int)]), ?_, by first | omega | (simp only; omega), rfl, ?_⟩; rotate_left; ((try dsimp only [upds, z0, z1]); repeat (first | exact LeF.nil | refine LeF.co (k := ?_))); (try dsimp only))
      exact ⟨by show k + 1 ≤ 8; omega, e2.symm⟩
    · obtain rfl : k = 8 := by omega
      have q3 : o = sizesN l := q2
      subst q3
      generalize sizesN l = SZ at *
      generalize eulS l 8 = EU at *
      generalize compC l = CN at *
      generalize (partsN l : Int) = PN at *
      (repeat' (first | (apply WL.opN; exact yF; dsimp only [setD, z0, z1]) | refine WL.nil ?_ | refine WC.seqK fun Kx hK => ?_ | (refine hK _ _ ?_; clear hK) | (refine Kont.skip ?_; clear hK) | refine WC.region ?_ | (apply WL.opG; (focus (first | exact wN | (apply SYG.yes; (exact wY); ((first | (apply SY.call (c2) Tryz.call58; (exact aD)) | (apply SY.call (c3) Tryz.call57; (exact aD)) | ((first | apply SY.move | apply SY.assign | apply SY.lss | apply SY.eql | apply SY.neq) <;> (exact oD)) | (apply SY.len; (exact oD); (exact nD); (exact uD)) | (apply SY.extract; (exact oD); rfl) | fail); all_goals infer_instance)))); dsimp only [setD, z0, z1]) | (apply WC.condD; (exact oD); all_goals (intro h; try exact xD)) | refine WC.exit ?_ | refine WC.block ?_))
      all_goals first | (exfalso; omega) | skip
      refine WC.keep1 (s := 2) rfl ?_
      dsimp only [z0, z1]
      (refine WC.loopU (X := Nat × Int) (fun x => [(44, dI (x.1 : Int)), (4, dI x.2), (13, dA), (45, dA), (46, dA), (47, dA), (48, dA), (49, dA), (50, dA), (51, dA), (52, dA)]) (fun x => []) (fun x => CN.length - x.1) (fun x => x.1 ≤ CN.length ∧ 0 ≤ x.2 ∧ x.2 ≤ 5000 ∧ PN = topN (CN.drop x.1) x.2) (0, 0) ?start ?frame0 ?objs0 ?round)
      case start => exact ⟨Nat.zero_le _, Int.le_refl _, by decide, htp.symm⟩
      case frame0 => ((try dsimp only [upds, z0, z1]); repeat (first | exact LeF.nil | refine LeF.co (k := ?_)))
      case objs0 => rfl
      case round =>
        rintro ⟨j, n⟩ ⟨r1, r2, r3, r4⟩
        simp only at r1 r2 r3 r4
        dsimp only [upds, z0, z1]
        by_cases hj : j < CN.length
        · obtain ⟨b1, b2⟩ := hcb _ (List.getElem_mem hj)
          rw [List.drop_eq_getElem_cons hj] at r4
          ((repeat' (first | (apply WL.opN; exact yF; dsimp only [setD, z0, z1]) | refine WL.nil ?_ | refine WC.seqK fun Kx hK => ?_ | (refine hK _ _ ?_; clear hK) | refine WC.region ?_ | (apply WL.opG; (focus (first | exact wN | (apply SYG.yes; (exact wY); ((first | (apply SY.maxI; exact OpD.t rfl; exact OpD.t rfl) | ((first | apply SY.move | apply SY.assign | apply SY.lss | apply SY.eql | apply SY.neq) <;> (exact oD)) | ((first | apply SY.add) <;> first | exact oD | omega) | (apply SY.ix; (exact eD); (exact oD); (exact oD); exact kD) | fail); all_goals infer_instance)))); dsimp only [setD, z0, z1]) | (apply WC.condD; (exact oD); all_goals (intro h; try exact xD)) | refine WC.skip ?_ | refine WC.block ?_ | refine ThenD.n ?_)); all_goals (first | ((repeat clear hK); (repeat clear Kx))))
          all_goals first | (exfalso; omega) | skip
          (refine ⟨(j + 1, max n (CN[j] + 1)), ?_, by first | omega | (simp only; omega), rfl, ?_⟩; rotate_left; ((try dsimp only [upds, z0, z1]); repeat (first | exact LeF.nil | refine LeF.co (k := ?_))); (try dsimp only))
          exact ⟨by show j + 1 ≤ _; omega, by show 0 ≤ max n _; omega, by show max n _ ≤ 5000; omega, r4⟩
        · rw [List.drop_eq_nil_of_le (by omega)] at r4
          have r5 : PN = n := r4
          subst r5
          ((repeat' (first | (apply WL.opN; exact yF; dsimp only [setD, z0, z1]) | refine WL.nil ?_ | refine WC.seqK fun Kx hK => ?_ | (refine hK _ _ ?_; clear hK) | (refine Kont.skip ?_; clear hK) | refine WC.region ?_ | (apply WL.opG; (focus (first | exact wN | (apply SYG.yes; (exact wY); ((first | ((first | apply SY.move | apply SY.assign | apply SY.lss | apply SY.eql | apply SY.neq) <;> (exact oD)) | (apply SY.pickT; (exact oD); (with_reducible rfl); (exact oD)) | fail); all_goals infer_instance)))); dsimp only [setD, z0, z1]) | ((first | refine WL.caseP rfl rfl rfl (fun h => ?_) (fun h => ?_) | refine WL.caseN rfl rfl rfl (fun h => ?_) (fun h => ?_) | refine WL.caseB rfl rfl rfl (fun h => ?_) (fun h => ?_)) <;> (first | (exfalso; first | omega | contradiction) | (dsimp only [z0, z1]))) | (apply WC.condD; (exact oD); all_goals (intro h; try exact xD)) | refine WC.ret ?_ | refine WC.exit ?_)); all_goals (first | ((repeat clear hK); (repeat clear Kx))))
          all_goals first | (exfalso; omega) | skip
          exact ⟨trivial, ⟨_, rfl, FinD.le (Dat.le_refl _)⟩, ⟨_, rfl, FinD.le (Dat.le_refl _)⟩, ⟨_, rfl, FinD.le (Dat.le_refl _)⟩, _, rfl, FinD.le (Dat.le_refl _)⟩
end Go.Proofs.YtjbepoofigokjaaGreat
namespace Go.Proofs.YtjbepoofigokjaaGreat
open Go.RowKit
set_option linter.unusedSimpArgs false

set_option maxHeartbeats 2000000
set_option maxRecDepth 100000
theorem sizes_at (l : Cx) {k : Nat} (hk : k < (sizesN l).length) : (sizesN l)[k] = ((allC l (k + 1)).length : Int) := by
  simp [sizesN]
theorem sizes_len (l : Cx) : (sizesN l).length = 8 := by simp [sizesN]
end Go.Proofs.YtjbepoofigokjaaGreat
