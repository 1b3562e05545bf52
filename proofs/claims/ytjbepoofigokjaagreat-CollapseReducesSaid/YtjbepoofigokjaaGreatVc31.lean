/-
  Part 31 of the texts that the claims of this seat lean on: walks of the program's functions by contracts over symbolic frames, and plain laws of what they compute. No condition.
-/
import Derived.ArgAppend
import Derived.Test.YtjbepoofigokjaaGreatVc8
import Derived.Test.YtjbepoofigokjaaGreatVc9
import Derived.Test.YtjbepoofigokjaaGreatVc22
import Derived.Test.YtjbepoofigokjaaGreatVc23
import Derived.Test.YtjbepoofigokjaaGreatVc24
import Derived.Test.YtjbepoofigokjaaGreatVc25
import Derived.Test.YtjbepoofigokjaaGreatVc27
import Derived.Test.YtjbepoofigokjaaGreatVc28
import Derived.Test.YtjbepoofigokjaaGreatVc30
set_option linter.unusedVariables false
set_option linter.unusedSimpArgs false
set_option linter.unusedSectionVars false
namespace Go.Proofs.YtjbepoofigokjaaGreat
open Go.RowKit
set_option linter.unusedSimpArgs false

set_option maxHeartbeats 2000000
set_option maxRecDepth 100000
def powN (l : Cx) : Nat := (l.map fun s => 2 ^ s.length).sum
theorem powN_snoc {l : Cx} {k : Nat} (h : k < l.length) : powN (l.take (k + 1)) = powN (l.take k) + 2 ^ l[k].length := by
  unfold powN
  rw [take_snoc' h, List.map_append, List.sum_append]
  simp
def few32 (l : Cx) : Bool := fewAllV l && decide (powN l ≤ 260)
theorem few32_c (l : Cx) : Fn Tryz.prog 11 [dS Cpx l] (dB (few32 l)) := by
  (refine Fn.intro1 Tryz.func11 rfl rfl ?_; simp only [Tryz.ntmps11, List.length_cons, List.length_nil, Nat.reduceAdd, Nat.reduceSub, List.replicate_succ, List.replicate_zero, List.cons_append, List.nil_append])
  have c0 := fewC_c l
  cases hf : fewAllV l with
  | false =>
    rw [hf] at c0
    ((repeat' (first | (apply WL.opN; exact yF; dsimp only [setD, z0, z1]) | refine WL.nil ?_ | refine WC.seqK fun Kx hK => ?_ | (refine hK _ _ ?_; clear hK) | refine WC.region ?_ | (apply WL.opN; (focus ((first | (apply SY.call (c0) Tryz.call24; (exact aD)) | ((first | apply SY.move | apply SY.assign | apply SY.lss | apply SY.leq | apply SY.not) <;> (exact oD)) | (apply SY.box; (exact oD); (exact hD)) | fail); all_goals infer_instance)); dsimp only [setD, z0, z1]) | (apply WC.condNB; (exact oD); all_goals (intro h; try exact xD)) | refine WC.ret ?_ | refine ThenD.r ?_)); all_goals (first | ((repeat clear hK); (repeat clear Kx))))
    all_goals first | contradiction | skip
    (refine ⟨trivial, _, rfl, ?_⟩; refine FinD.b ?_)
    unfold few32; rw [hf]; rfl
  | true =>
    rw [hf] at c0
    have h2 := hf
    unfold fewAllV at h2
    rw [Bool.and_eq_true, List.all_eq_true] at h2
    have hl : l.length ≤ 30 := of_decide_eq_true h2.1
    have h10 : ∀ s ∈ l, s.length ≤ 10 := fun s hs => of_decide_eq_true (h2.2 s hs)
    (repeat' (first | (apply WL.opN; exact yF; dsimp only [setD, z0, z1]) | refine WL.nil ?_ | refine WC.seqK fun Kx hK => ?_ | (refine hK _ _ ?_; clear hK) | refine WC.region ?_ | (apply WL.opN; (focus ((first | (apply SY.call (c0) Tryz.call24; (exact aD)) | ((first | apply SY.move | apply SY.assign | apply SY.lss | apply SY.leq | apply SY.not) <;> (exact oD)) | (apply SY.box; (exact oD); (exact hD)) | fail); all_goals infer_instance)); dsimp only [setD, z0, z1]) | (apply WC.condNB; (exact oD); all_goals (intro h; try exact xD)) | refine WC.skip ?_ | refine WC.block ?_))
    all_goals first | contradiction | skip
    (refine WC.loopU (X := Nat × Nat) (fun x => [(4, dI (x.1 : Int)), (3, dI (x.2 : Int)), (5, dA), (6, dA), (10, dA), (11, dA), (12, dA), (13, dA), (14, dA), (15, dA), (16, dA), (17, dA), (18, dA), (19, dA), (20, dA), (21, dA), (22, dA), (23, dA), (24, dA), (25, dA), (26, dA), (27, dA), (28, dA), (29, dA), (30, dA), (31, dA)]) (fun x => []) (fun x => l.length - x.1) (fun x => x.1 ≤ l.length ∧ x.2 = powN (l.take x.1) ∧ x.2 ≤ 1024 * x.1) (0, 0) ?start ?frame0 ?objs0 ?round)
    case start => exact ⟨Nat.zero_le _, rfl, Nat.zero_le _⟩
    case frame0 => ((try dsimp only [upds, z0, z1]); repeat (first | exact LeF.nil | refine LeF.co (k := ?_)))
    case objs0 => rfl
    case round =>
      rintro ⟨k, n⟩ ⟨h1, h3, h4⟩
      simp only at h1 h3 h4
      dsimp only [upds, z0, z1]
      by_cases hk : k < l.length
      · have hb := h10 _ (List.getElem_mem hk)
        have e := powN_snoc hk
        (repeat' (first | (apply WL.opN; exact yF; dsimp only [setD, z0, z1]) | refine WL.nil ?_ | refine WC.seqK fun Kx hK => ?_ | (refine hK _ _ ?_; clear hK) | refine WC.region ?_ | (apply WL.opN; (focus ((first | ((first | apply SY.move | apply SY.assign | apply SY.lss | apply SY.leq | apply SY.not) <;> (exact oD)) | (apply SY.len; (exact oD); (exact nD); (exact uD)) | (apply SY.fldC cpxT; exact OpD.t rfl) | fail); all_goals infer_instance)); dsimp only [setD, z0, z1]) | (apply WC.condD; (exact oD); all_goals (intro h; try exact xD)) | refine WC.skip ?_ | refine WC.block ?_))
        (refine WC.loopU (X := Nat × Nat) (fun y => [(6, dI (y.1 : Int)), (5, dI (y.2 : Int)), (17, dA), (18, dA), (19, dA), (20, dA), (21, dA), (22, dA), (23, dA), (24, dA), (25, dA), (26, dA), (27, dA), (28, dA)]) (fun y => []) (fun y => l[k].length - y.1) (fun y => y.1 ≤ l[k].length ∧ y.2 = 2 ^ y.1 ∧ y.2 ≤ 1024) (0, 1) ?start ?frame0 ?objs0 ?round)
        case start => exact ⟨Nat.zero_le _, rfl, by decide⟩
        case frame0 => ((try dsimp only [upds, z0, z1]); repeat (first | exact LeF.nil | refine LeF.co (k := ?_)))
        case objs0 => rfl
        case round =>
          rintro ⟨j, m⟩ ⟨k1, k2, k3⟩
          simp only at k1 k2 k3
          dsimp only [upds, z0, z1]
          by_cases hj : j < l[k].length
          · ((repeat' (first | (apply WL.opN; exact yF; dsimp only [setD, z0, z1]) | refine WL.nil ?_ | refine WC.seqK fun Kx hK => ?_ | (refine hK _ _ ?_; clear hK) | refine WC.region ?_ | (apply WL.opN; (focus ((first | ((first | apply SY.move | apply SY.assign | apply SY.lss | apply SY.leq | apply SY.not) <;> (exact oD)) | ((first | apply SY.add | apply SY.mul) <;> first | exact oD | omega) | (apply SY.len; (exact oD); (exact nD); (exact uD)) | (apply SY.ix; (exact eD); (exact oD); (exact oD); exact kD) | (apply SY.fldC cpxT; exact OpD.t rfl) | fail); all_goals infer_instance)); dsimp only [setD, z0, z1]) | (apply WC.condD; (exact oD); all_goals (intro h; try exact xD)) | refine WC.skip ?_ | refine WC.block ?_ | refine ThenD.n ?_)); all_goals (first | ((repeat clear hK); (repeat clear Kx))))
            (refine ⟨(j + 1, m * 2), ?_, by first | omega | (simp only; omega), rfl, ?_⟩; rotate_left; ((try dsimp only [upds, z0, z1]); repeat (first | exact LeF.nil | refine LeF.co (k := ?_))); (try dsimp only))
            refine ⟨by omega, by show m * 2 = _; rw [k2, Nat.pow_succ], ?_⟩
            show m * 2 ≤ 1024
            rw [k2, ← Nat.pow_succ]
            exact Nat.le_trans (Nat.pow_le_pow_right (by decide) (show j + 1 ≤ 10 by omega) : 2 ^ (j + 1) ≤ 2 ^ 10) (by decide)
          · obtain rfl : j = l[k].length := by omega
            ((repeat' (first | (apply WL.opN; exact yF; dsimp only [setD, z0, z1]) | refine WL.nil ?_ | refine WC.seqK fun Kx hK => ?_ | (refine hK _ _ ?_; clear hK) | (refine Kont.skip ?_; clear hK) | refine WC.region ?_ | (apply WL.opN; (focus ((first | ((first | apply SY.move | apply SY.assign | apply SY.lss | apply SY.leq | apply SY.not) <;> (exact oD)) | ((first | apply SY.add | apply SY.mul) <;> first | exact oD | omega) | (apply SY.len; (exact oD); (exact nD); (exact uD)) | (apply SY.ix; (exact eD); (exact oD); (exact oD); exact kD) | (apply SY.fldC cpxT; exact OpD.t rfl) | fail); all_goals infer_instance)); dsimp only [setD, z0, z1]) | (apply WC.condD; (exact oD); all_goals (intro h; try exact xD)) | refine WC.exit ?_ | refine ThenD.n ?_)); all_goals (first | ((repeat clear hK); (repeat clear Kx))))
            (refine ⟨(k + 1, n + m), ?_, by first | omega | (simp only; omega), rfl, ?_⟩; rotate_left; ((try dsimp only [upds, z0, z1]); repeat (first | exact LeF.nil | refine LeF.co (k := ?_))); (try dsimp only))
            exact ⟨by omega, by show n + m = _; rw [e, ← h3, k2], by show n + m ≤ _; omega⟩
      · rw [List.take_of_length_le (by omega)] at h3
        ((repeat' (first | (apply WL.opN; exact yF; dsimp only [setD, z0, z1]) | refine WL.nil ?_ | refine WC.seqK fun Kx hK => ?_ | (refine hK _ _ ?_; clear hK) | (refine Kont.skip ?_; clear hK) | refine WC.region ?_ | (apply WL.opN; (focus ((first | ((first | apply SY.move | apply SY.assign | apply SY.lss | apply SY.leq | apply SY.not) <;> (exact oD)) | (apply SY.len; (exact oD); (exact nD); (exact uD)) | (apply SY.fldC cpxT; exact OpD.t rfl) | fail); all_goals infer_instance)); dsimp only [setD, z0, z1]) | (apply WC.condD; (exact oD); all_goals (intro h; try exact xD)) | refine WC.ret ?_ | refine WC.exit ?_)); all_goals (first | ((repeat clear hK); (repeat clear Kx))))
        (refine ⟨trivial, _, rfl, ?_⟩; refine FinD.b ?_)
        unfold few32
        rw [hf, Bool.true_and, ← h3]
        exact decide_eq_decide.2 (by omega)
theorem whole_c (l : Cx) (h8 : ∀ s ∈ l, s.length ≤ 8) (hl : l.length ≤ 4096) : Fn Tryz.prog 55 [dS Cpx l] (dI (wholeN l 8 : Int)) := by
  (refine Fn.intro1 Tryz.func55 rfl rfl ?_; simp only [Tryz.ntmps55, List.length_cons, List.length_nil, Nat.reduceAdd, Nat.reduceSub, List.replicate_succ, List.replicate_zero, List.cons_append, List.nil_append])
  (repeat' (first | (apply WL.opN; exact yF; dsimp only [setD, z0, z1]) | refine WL.nil ?_ | refine WC.seqK fun Kx hK => ?_ | (refine hK _ _ ?_; clear hK) | refine WC.region ?_ | (apply WL.opN; (focus ((first | (apply SY.box; (exact oD); (exact hD)) | fail); all_goals infer_instance)); dsimp only [setD, z0, z1]) | refine WC.block ?_))
  (refine WC.loopU (X := Nat × Nat) (fun x => [(4, dI ((x.1 + 1 : Nat) : Int)), (3, dI (x.2 : Int)), (5, dA), (6, dA), (7, dA), (8, dA), (9, dA), (10, dA), (11, dA), (12, dA), (13, dA), (14, dA)]) (fun x => []) (fun x => 8 - x.1) (fun x => x.1 ≤ 8 ∧ x.2 = wholeN l x.1 ∧ x.2 ≤ 70 * 4096 * x.1) (0, 0) ?start ?frame0 ?objs0 ?round)
  case start => exact ⟨Nat.zero_le _, rfl, Nat.zero_le _⟩
  case frame0 => ((try dsimp only [upds, z0, z1]); repeat (first | exact LeF.nil | refine LeF.co (k := ?_)))
  case objs0 => rfl
  case round =>
    rintro ⟨k, n⟩ ⟨h1, h3, h4⟩
    simp only at h1 h3 h4
    dsimp only [upds, z0, z1]
    by_cases hk : k < 8
    · have c1 := all_c l (k + 1) hl h8 (by omega)
      have hb := all_le70 h8 (k + 1)
      have e := wholeN_succ l k
      generalize allC l (k + 1) = A at *
      ((repeat' (first | (apply WL.opN; exact yF; dsimp only [setD, z0, z1]) | refine WL.nil ?_ | refine WC.seqK fun Kx hK => ?_ | (refine hK _ _ ?_; clear hK) | refine WC.region ?_ | (apply WL.opN; (focus ((first | (apply SY.call (c1) Tryz.call98; (exact aD)) | ((first | apply SY.move | apply SY.assign | apply SY.leq) <;> (exact oD)) | ((first | apply SY.add) <;> first | exact oD | omega) | (apply SY.len; (exact oD); (exact nD); (exact uD)) | fail); all_goals infer_instance)); dsimp only [setD, z0, z1]) | (apply WC.condD; (exact oD); all_goals (intro h; try exact xD)) | refine WC.skip ?_ | refine WC.block ?_ | refine ThenD.n ?_)); all_goals (first | ((repeat clear hK); (repeat clear Kx))))
      (refine ⟨(k + 1, n + A.length), ?_, by first | omega | (simp only; omega), rfl, ?_⟩; rotate_left; ((try dsimp only [upds, z0, z1]); repeat (first | exact LeF.nil | refine LeF.co (k := ?_))); (try dsimp only))
      exact ⟨by omega, by show n + _ = _; rw [e, ← h3], by show n + _ ≤ _; omega⟩
    · obtain rfl : k = 8 := by omega
      subst h3
      ((repeat' (first | (apply WL.opN; exact yF; dsimp only [setD, z0, z1]) | refine WL.nil ?_ | refine WC.seqK fun Kx hK => ?_ | (refine hK _ _ ?_; clear hK) | (refine Kont.skip ?_; clear hK) | refine WC.region ?_ | (apply WL.opN; (focus ((first | ((first | apply SY.move | apply SY.assign | apply SY.leq) <;> (exact oD)) | fail); all_goals infer_instance)); dsimp only [setD, z0, z1]) | (apply WC.condD; (exact oD); all_goals (intro h; try exact xD)) | refine WC.ret ?_ | refine WC.exit ?_)); all_goals (first | ((repeat clear hK); (repeat clear Kx))))
      (refine ⟨trivial, _, rfl, ?_⟩; exact fD)
theorem good_sizes {l : Cx} (h : chkC l = 0) : (∀ s ∈ l, 0 < s.length ∧ s.length ≤ 8) ∧ l.length ≤ 4096 := ⟨fun s hs => chk_len ((goodX_iff.1 h).2.2.1 s hs), (goodX_iff.1 h).1⟩
def freeK (l : Cx) : List Cl × Int := if chkC l ≠ 0 then ([], chkC l) else (pairsC l, 0)
def connC (l : Cx) : Bool := (compC l).all (fun n => decide (¬ 0 < n)) && decide (0 < (compC l).length)
theorem conn32_c (l : Cx) (h0 : chkC l = 0) : Fn Tryz.prog 61 [dS Cpx l] (dB (connC l)) := by
  (refine Fn.intro1 Tryz.func61 rfl rfl ?_; simp only [Tryz.ntmps61, List.length_cons, List.length_nil, Nat.reduceAdd, Nat.reduceSub, List.replicate_succ, List.replicate_zero, List.cons_append, List.nil_append])
  obtain ⟨g1, g2⟩ := good_sizes h0
  have c1 := parts_c l g1 (by omega)
  unfold connC
  generalize compC l = L at *
  (repeat' (first | (apply WL.opN; exact yF; dsimp only [setD, z0, z1]) | refine WL.nil ?_ | refine WC.seqK fun Kx hK => ?_ | (refine hK _ _ ?_; clear hK) | refine WC.region ?_ | (apply WL.opN; (focus ((first | (apply SY.call (c1) Tryz.call100; (exact aD)) | (apply SY.box; (exact oD); (exact hD)) | fail); all_goals infer_instance)); dsimp only [setD, z0, z1]) | refine WC.block ?_))
  (first | refine WC.know (t := 3) rfl le_K fun hl3 => ?_ | refine WC.know (t := 3) rfl le_A fun hl3 => ?_ | refine WC.know (t := 3) rfl le_C fun hl3 => ?_); simp only [maxLen] at hl3
  (refine WC.loopU (X := Nat) (fun k => [(4, dI (k : Int)), (2, dA), (7, dA), (8, dA), (9, dA), (10, dA), (11, dA), (12, dA), (13, dA), (14, dA), (15, dA), (16, dA), (17, dA)]) (fun k => []) (fun k => L.length - k) (fun k => k ≤ L.length ∧ ∀ n ∈ L.take k, ¬ 0 < n) 0 ?start ?frame0 ?objs0 ?round)
  case start => exact ⟨Nat.zero_le _, by simp⟩
  case frame0 => ((try dsimp only [upds, z0, z1]); repeat (first | exact LeF.nil | refine LeF.co (k := ?_)))
  case objs0 => rfl
  case round =>
    rintro k ⟨h1, h2⟩
    dsimp only [upds, z0, z1]
    by_cases hk : k < L.length
    · ((repeat' (first | (apply WL.opN; exact yF; dsimp only [setD, z0, z1]) | refine WL.nil ?_ | refine WC.seqK fun Kx hK => ?_ | (refine hK _ _ ?_; clear hK) | refine WC.region ?_ | (apply WL.opN; (focus ((first | ((first | apply SY.move | apply SY.assign | apply SY.lss | apply SY.gtr) <;> (exact oD)) | ((first | apply SY.add) <;> first | exact oD | omega) | (apply SY.len; (exact oD); (exact nD); (exact uD)) | (apply SY.ix; (exact eD); (exact oD); (exact oD); exact kD) | fail); all_goals infer_instance)); dsimp only [setD, z0, z1]) | (apply WC.condD; (exact oD); all_goals (intro h; try exact xD)) | refine WC.skip ?_ | refine WC.ret ?_ | refine WC.block ?_ | refine ThenD.n ?_ | refine ThenD.r ?_ | refine InBlockD.r ?_)); all_goals (first | ((repeat clear hK); (repeat clear Kx))))
      · (refine ⟨trivial, _, rfl, ?_⟩; refine FinD.b ?_)
        symm
        rw [Bool.and_eq_false_iff]
        left
        rw [List.all_eq_false]
        exact ⟨_, List.getElem_mem hk, by rw [decide_eq_false (fun hn => hn h)]; exact Bool.false_ne_true⟩
      · (refine ⟨k + 1, ?_, by first | omega | (simp only; omega), rfl, ?_⟩; rotate_left; ((try dsimp only [upds, z0, z1]); repeat (first | exact LeF.nil | refine LeF.co (k := ?_))); (try dsimp only))
        refine ⟨by omega, fun n hn => ?_⟩
        rcases (mem_take_snoc hk).1 hn with h' | rfl
        · exact h2 n h'
        · exact h
    · rw [List.take_of_length_le (by omega)] at h2
      ((repeat' (first | (apply WL.opN; exact yF; dsimp only [setD, z0, z1]) | refine WL.nil ?_ | refine WC.seqK fun Kx hK => ?_ | (refine hK _ _ ?_; clear hK) | (refine Kont.skip ?_; clear hK) | refine WC.region ?_ | (apply WL.opN; (focus ((first | ((first | apply SY.move | apply SY.assign | apply SY.lss | apply SY.gtr) <;> (exact oD)) | (apply SY.len; (exact oD); (exact nD); (exact uD)) | fail); all_goals infer_instance)); dsimp only [setD, z0, z1]) | (apply WC.condD; (exact oD); all_goals (intro h; try exact xD)) | refine WC.ret ?_ | refine WC.exit ?_)); all_goals (first | ((repeat clear hK); (repeat clear Kx))))
      (refine ⟨trivial, _, rfl, ?_⟩; refine FinD.b ?_)
      rw [List.all_eq_true.2 fun n hn => decide_eq_true (h2 n hn), Bool.true_and]
      exact decide_eq_decide.2 (by omega)
def stepK (l : Cx) (x : Cl) : Cx × Int := if chkC l ≠ 0 then ([], chkC l) else if chkV x.1 ≠ 0 then ([], chkV x.1) else if chkV x.2 ≠ 0 then ([], chkV x.2) else if x ∉ pairsC l then ([], 6) else if 4096 < (leftC l x).length then ([], 5) else (leftC l x, 0)
end Go.Proofs.YtjbepoofigokjaaGreat
namespace Go.Proofs.YtjbepoofigokjaaGreat
open Go.RowKit
section
variable {P : Program} {ops : Array Oper} {hp : List HObj} {o : Oper} {fr : List Dat} {d : Dat} {Q : Post} {rest : List Oper}
variable {dst : Option Tmp} {ty : TypeId} {ps : String} {af : Array Edge} {g : Option (Nat × Bool)} {b cap : Nat} {e t T : TypeId} {xs : List Vx} {bytes : Nat} {z : Value} {ag : Bool}
theorem WL.writeV {o : Oper} {k N : Nat} {ys : List Vx} {r : Value} (hg : o.guard = none) (hk : k + ys.length ≤ xs.length) (hrun : ∀ {I : Nat → Prop} {w : World} {a : Act}, Fr I w a fr → RowAt w b cap e xs → (execOp a.eval o).run P w = .ok (.value r) (w.setCells b (k * 2) (flatV ys)))
    (h : WL P ops Q rest (setD fr o.dst (dX r)) (hV b N cap e (xs.take k ++ ys ++ xs.drop (k + ys.length)) :: hp)) : WL P ops Q (o :: rest) fr (hV b N cap e xs :: hp) := by
  refine WL.of fun P0 B w0 w a hh hf => ?_
  obtain ⟨hN, hrow⟩ := hV_row.1 (hh.ok (hV b N cap e xs) (by simp))
  have hr := hrun hf hrow
  have hgr : w.grownBy (w.setCells b (k * 2) (flatV ys)) (hV b N cap e xs).blk := row_grown
  have hok : (hV b N cap e (xs.take k ++ ys ++ xs.drop (k + ys.length))).ok (fun j => Imm P0 B (hV b N cap e xs :: hp) j ∧ j < w.heap.size) (w.setCells b (k * 2) (flatV ys)) :=
    hV_row.2 ⟨by rw [hN]; simp; omega, row_write hrow k ys hk⟩
  refine wpList_plain hg fun K hK => ?_
  unfold Oper.wp
  rw [hr]
  exact hK _ _ (h.on (hh.write hgr (.inl rfl) hok) (Fr.put (hf.mono fun _ _ hd => Hp.written (o' := hV b N cap e (xs.take k ++ ys ++ xs.drop (k + ys.length))) hgr (.inl rfl) hd) (d := dX r) rfl))
theorem flatV_dropG {l : List Vx} {j : Nat} (hj : j ≤ l.length) (q : Nat) : (flatV (l.drop j))[q]? = (flatV l)[j * 2 + q]? := by
  have e : flatV l = flatV (l.take j) ++ flatV (l.drop j) := by rw [← flatV_app, List.take_append_drop]
  have hl : (flatV (l.take j)).length = j * 2 := by rw [flatV_len, List.length_take]; congr 1; omega
  rw [e, List.getElem?_append_right (by omega), hl]
  congr 1; omega
theorem WL.shiftO {s y : Operand} {i j N m c of : Nat} (E : ElT P t e 2 z bytes ag) (hs : OpD fr s (dX (.slice (some ⟨b, 0, none⟩) i cap))) (hy : OpD fr y (dX (.slice (some ⟨b, of, none⟩) m c))) (hm : m = xs.length - j) (ho : 0 < m → of = j * 2) (hij : i ≤ j) (hj : j ≤ xs.length)
    (h : WL P ops Q rest (setD fr dst (dX (.slice (some ⟨b, 0, none⟩) (i + m) cap))) (hV b N cap e (xs.take i ++ xs.drop j ++ xs.drop (i + m)) :: hp)) :
    WL P ops Q ({ dst := dst, op := .call { callee := .builtin .append, args := #[s, y], argTypes := #[t, t] }, type := ty, pos := ps, after := af, guard := none } :: rest) fr (hV b N cap e xs :: hp) := by
  subst hm
  have hl : (xs.drop j).length = xs.length - j := List.length_drop
  refine WL.writeV (k := i) (ys := xs.drop j) (r := .slice (some ⟨b, 0, none⟩) (i + (xs.length - j)) cap) rfl (by rw [hl]; omega) (fun {I w a} hf hrow => ?_) (by rw [hl]; exact h)
  have h1 : a.eval s = _ := hs.ev hf
  have h2 : a.eval y = _ := hy.ev hf
  obtain ⟨i0, hi, hz, hsz, hbt⟩ := info_parts E.info
  have hcap : xs.length ≤ cap := by obtain ⟨tl, _, hc1, _⟩ := hrow; exact hc1
  have hcell : ∀ q, q < xs.length * 2 → w.cell? ⟨b, q, none⟩ = (flatV xs)[q]? ∧ w.frozen? ⟨b, q, none⟩ = false := fun q hq => row_cell hrow q hq
  have hfl : (flatV (xs.drop j)).length = (xs.length - j) * 2 := by rw [flatV_len, hl]
  have hr := run_append_room_cells (P := P) w t ty e i0 E.und hi b 0 i cap ⟨b, of, none⟩ (xs.length - j) c (flatV (xs.drop j)) (by rw [hfl, hsz]) (fun q u hu => by
      have hq : q < (xs.length - j) * 2 := by have := (List.getElem?_eq_some_iff.1 hu).1; omega
      rw [ho (by omega), Addr.add_lit, (hcell _ (by omega)).1, ← flatV_dropG hj]
      exact hu) (flatV_one _) (by omega) (fun q hq => by
      rw [hsz, Nat.zero_add, (hcell _ (by omega)).1, List.getElem?_eq_getElem (by rw [flatV_len]; omega)]
      rfl) (fun q hq => by rw [hsz, Nat.zero_add]; exact (hcell _ (by omega)).2)
  rw [hsz, Nat.zero_add] at hr
  unfold execOp
  simp only [resolve, invoke, builtin, List.map_toArray, List.map_cons, List.map_nil, h1, h2, Sem.run_bind, Sem.run_pure, Result.andThen_ok, hr]
theorem SY.fromP {x y : Operand} {off n m l : Nat} {j : Int} (E : ElT P t e 2 z bytes ag) (hx : OpD fr x (dX (.slice (some ⟨b, off, none⟩) n m))) (hy : OpD fr y (dI j)) (hj : j = (l : Int)) (hl : l ≤ n) (hm : n ≤ m) :
    SY P ops hp { dst := dst, op := .slice t x (some y) none none, type := ty, pos := ps, after := af, guard := g } fr (dX (.slice (some ⟨b, if m = l then off else off + l * 2, none⟩) (n - l) (m - l))) := SY.val fun {I w a} ho => by
  have h1 : a.eval x = _ := hx.get (by simp [Op.operands]) ho
  have h2 : a.eval y = _ := hy.get (by simp [Op.operands]) ho
  refine ⟨_, ?_, rfl⟩
  have hr := run_slice (w := w) (ad := some ⟨b, off, none⟩) (len := n) (cap := m) (lo := some (.int .i64 (l : Int))) (hi := none) (l := l) (h := n) E (.inr ⟨_, rfl⟩) (.inl ⟨rfl, rfl⟩) (by omega) hm
  unfold execOp
  simp only [h1, h2, hj, Option.map_none, Option.map_some, Sem.run_bind, hr, Result.andThen_ok, Sem.run_pure]
  split <;> simp [Addr.add_lit]
theorem SY.midO {x y1 y2 : Operand} {off n m l k : Nat} {j1 j2 : Int} (E : ElT P t e 2 z bytes ag) (hx : OpD fr x (dX (.slice (some ⟨b, off, none⟩) n m))) (hy1 : OpD fr y1 (dI j1)) (hy2 : OpD fr y2 (dI j2)) (e1 : j1 = (l : Int)) (e2 : j2 = (k : Int)) (h1 : l ≤ k) (h2 : k ≤ m) :
    SY P ops hp { dst := dst, op := .slice t x (some y1) (some y2) none, type := ty, pos := ps, after := af, guard := g } fr (dX (.slice (some ⟨b, if m = l then off else off + l * 2, none⟩) (k - l) (m - l))) := SY.val fun {I w a} ho => by
  have q0 : a.eval x = _ := hx.get (by simp [Op.operands]) ho
  have q1 : a.eval y1 = _ := hy1.get (by simp [Op.operands]) ho
  have q2 : a.eval y2 = _ := hy2.get (by simp [Op.operands]) ho
  refine ⟨_, ?_, rfl⟩
  have hr := run_slice (w := w) (ad := some ⟨b, off, none⟩) (len := n) (cap := m) (lo := some (.int .i64 (l : Int))) (hi := some (.int .i64 (k : Int))) (l := l) (h := k) E (.inr ⟨_, rfl⟩) (.inr ⟨_, rfl⟩) h1 h2
  unfold execOp
  simp only [q0, q1, q2, e1, e2, Option.map_none, Option.map_some, Sem.run_bind, hr, Result.andThen_ok, Sem.run_pure]
  split <;> simp [Addr.add_lit]
theorem SY.maxO {x y1 y2 y3 : Operand} {off n m l k q : Nat} {j1 j2 j3 : Int} (E : ElT P t e 2 z bytes ag) (hx : OpD fr x (dX (.slice (some ⟨b, off, none⟩) n m))) (hy1 : OpD fr y1 (dI j1)) (hy2 : OpD fr y2 (dI j2)) (hy3 : OpD fr y3 (dI j3)) (e1 : j1 = (l : Int)) (e2 : j2 = (k : Int)) (e3 : j3 = (q : Int)) (h1 : l ≤ k) (h2 : k ≤ q) (h3 : q ≤ m) :
    SY P ops hp { dst := dst, op := .slice t x (some y1) (some y2) (some y3), type := ty, pos := ps, after := af, guard := g } fr (dX (.slice (some ⟨b, if q = l then off else off + l * 2, none⟩) (k - l) (q - l))) := SY.val fun {I w a} ho => by
  have q0 : a.eval x = _ := hx.get (by simp [Op.operands]) ho
  have q1 : a.eval y1 = _ := hy1.get (by simp [Op.operands]) ho
  have q2 : a.eval y2 = _ := hy2.get (by simp [Op.operands]) ho
  have q3 : a.eval y3 = _ := hy3.get (by simp [Op.operands]) ho
  refine ⟨_, ?_, rfl⟩
  obtain ⟨i, hi', hz, hs, hb⟩ := info_parts E.info
  have hr : (Instr.sliceAt t (.slice (some ⟨b, off, none⟩) n m) (some (.int .i64 (l : Int))) (some (.int .i64 (k : Int))) (some (.int .i64 (q : Int)))).run P w = .ok (.slice (if q = l then some ⟨b, off, none⟩ else (some (⟨b, off, none⟩ : Addr)).map (·.add (l * 2))) (k - l) (q - l)) w := by
    have a1 : (0 : Int) ≤ l ∧ (l : Int) ≤ (k : Nat) := by omega
    have a2 : (0 : Int) ≤ k ∧ (k : Int) ≤ (q : Nat) := by omega
    have a3 : (0 : Int) ≤ q ∧ (q : Int) ≤ (m : Nat) := by omega
    simp [Instr.sliceAt, Instr.slice, run_underlying E.und, Instr.sliceBounds, Instr.sliceBound, asIntOf, sizeOf, typeInfo, hi', hs, h1, h2, h3]
  unfold execOp
  simp only [q0, q1, q2, q3, e1, e2, e3, Option.map_some, Sem.run_bind, hr, Result.andThen_ok, Sem.run_pure]
  split <;> simp [Addr.add_lit]
end
end Go.Proofs.YtjbepoofigokjaaGreat
namespace Go.Proofs.YtjbepoofigokjaaGreat
open Go.RowKit
set_option linter.unusedSimpArgs false

set_option maxHeartbeats 2000000
set_option maxRecDepth 100000
set_option maxHeartbeats 8000000 in
theorem delete_v (v : Value) (xs : List Vx) (i : Nat) (hi : i < xs.length) (hl : xs.length ≤ 1000) : CallC Tryz.prog 125 [dX v, dI (i : Int), dI ((i : Int) + 1)] [hRowK v 63 2 RV xs] fun d' hp2 => ∃ u, d' = dX u ∧ hp2 = [hRowK u 63 2 RV (xs.take i ++ xs.drop (i + 1))] := by
  (refine CallC.intro Tryz.func125 rfl rfl (fun hp => ?_); simp only [Tryz.ntmps125, List.length_cons, List.length_nil, List.length_append, List.length_map, Nat.reduceAdd, Nat.reduceSub, List.replicate_succ, List.replicate_zero, List.cons_append, List.nil_append, List.map_cons, List.map_nil, List.append_assoc])
  refine WC.openV (by omega) fun b cap hv hc1 hc2 => ?_
  subst hv
  simp only [maxLen] at hc2
  have hm : xs.length - (i + 1) = xs.length - (i + 1) := rfl
  ((repeat' (first |  (apply WC.drawTail 6; kernel_rfl; kernel_rfl; simp only [List.take_succ_cons, List.take_zero, List.drop_succ_cons, List.drop_zero]) | ((first | apply WL.opN | apply WD.opN); exact yF; dsimp only [setD, z0, z1]) | refine WL.nil ?_ | refine WD.nil ?_ | refine WC.seqK fun Kx hK => ?_ | (refine hK _ _ ?_; clear hK) | refine WC.region ?_ |  (apply WL.shiftO (i := i) (j := i + 1) elV; exact OpD.t rfl; exact OpD.t rfl; exact hm; (intro hpos; rw [if_neg (by omega)]; omega); omega; omega; dsimp only [setD, z0, z1]) |  (apply WL.clearO (k := i + (xs.length - (i + 1))) (n := xs.length - (i + (xs.length - (i + 1)))) Tryz.underlying34 Tryz.zeroValue63; exact OpD.t rfl; (rw [if_neg (by omega)]; omega); omega; (simp only [List.length_append, List.length_take, List.length_drop]; omega); dsimp only [setD, z0, z1]; refine WL.cutO (k := i + (xs.length - (i + 1))) ?_ ?_; (simp only [List.length_append, List.length_take, List.length_drop, List.length_replicate]; omega)) | ((first | apply WL.opN | apply WD.opN); (focus ((first | (apply SY.maxO (l := i) (k := i + 1) (q := xs.length) elV; exact OpD.t rfl; exact OpD.t rfl; exact OpD.t rfl; exact OpD.t rfl; rfl; omega; rfl; omega; omega; omega) | (apply SY.uptoO (l := i) elV; exact OpD.t rfl; exact OpD.t rfl; rfl; omega; omega; omega) | (apply SY.fromP (l := i + 1) elV; exact OpD.t rfl; exact OpD.t rfl; omega; omega; omega) | (apply SY.midO (l := i + (xs.length - (i + 1))) (k := xs.length) elV; exact OpD.t rfl; exact OpD.t rfl; exact OpD.t rfl; rfl; rfl; omega; omega) | ((first | apply SY.move | apply SY.assign | apply SY.eql) <;> (exact oD)) | (apply SY.len; (exact oD); (exact nD); (exact uD)) | fail); all_goals infer_instance)); dsimp only [setD, z0, z1]) | (apply WC.condD; (exact oD); all_goals (intro h; try exact xD)) | refine WC.skip ?_ | refine WC.ret ?_)); all_goals (first | ((repeat clear hK); (repeat clear Kx))))
  all_goals first | (exfalso; omega) | skip
  refine ⟨trivial, _, [_], rfl, rfl, _, rfl, ?_⟩
  have e1 : (xs.take i ++ xs.drop (i + 1)).length = i + (xs.length - (i + 1)) := by simp only [List.length_append, List.length_take, List.length_drop]; omega
  have e2 : List.take (i + (xs.length - (i + 1))) (List.take (i + (xs.length - (i + 1))) (List.take i xs ++ List.drop (i + 1) xs ++ List.drop (i + (xs.length - (i + 1))) xs) ++ List.replicate (xs.length - (i + (xs.length - (i + 1)))) (0, 0)) = List.take i xs ++ List.drop (i + 1) xs := by
    rw [← e1, List.take_left' rfl, List.take_left' rfl]
  rw [e2]
def remV (xs : List Vx) (i : Nat) : List Vx := xs.take i ++ xs.drop (i + 1)
set_option maxHeartbeats 8000000 in
theorem without32_p (xs : List Vx) (i : Nat) (hi : i < xs.length) (hl : xs.length ≤ 1000) : Fn Tryz.prog 90 [dS Verts xs, dI (i : Int)] (dS Verts (remV xs i)) := by
  (refine Fn.intro1 Tryz.func90 rfl rfl ?_; simp only [Tryz.ntmps90, List.length_cons, List.length_nil, Nat.reduceAdd, Nat.reduceSub, List.replicate_succ, List.replicate_zero, List.cons_append, List.nil_append])
  have hd := fun v => delete_v v xs i hi hl
  ((repeat' (first | (apply WL.opN; exact yF; dsimp only [setD, z0, z1]) | refine WL.nil ?_ | refine WC.seqK fun Kx hK => ?_ | (refine hK _ _ ?_; clear hK) | refine WC.region ?_ |  (apply WL.outRow (by decide) (clone_k xs (by omega)) Tryz.call89; (exact aD); intro vc; dsimp only [setD, z0, z1]) |  (refine WL.callC (hp1 := [_]) (caps := []) (hd _) Tryz.call125 OpD.f (ArgsD.cons (OpD.t rfl) (ArgsD.cons (OpD.t rfl) (ArgsD.cons (OpD.t rfl) ArgsD.nil))) ?_; rintro d' hp2 ⟨vd, rfl, rfl⟩; dsimp only [setD, z0, z1, List.cons_append, List.nil_append]) | (apply WL.opN; (focus ((first | ((first | apply SY.add) <;> first | exact oD | omega) | fail); all_goals infer_instance)); dsimp only [setD, z0, z1]) | refine WC.ret ?_)); all_goals (first | ((repeat clear hK); (repeat clear Kx))))
  (refine ⟨trivial, _, rfl, ?_⟩; exact fD)
end Go.Proofs.YtjbepoofigokjaaGreat
namespace Go.Proofs.YtjbepoofigokjaaGreat
open Go.RowKit
set_option linter.unusedSimpArgs false

set_option maxHeartbeats 2000000
set_option maxRecDepth 100000
theorem whole_mono (l : Cx) {k : Nat} : ∀ {n : Nat}, k < n → (allC l (k + 1)).length ≤ wholeN l n
  | 0, h => by omega
  | n + 1, h => by
    rw [wholeN_succ]
    by_cases he : k = n
    · subst he; omega
    · have := whole_mono l (k := k) (n := n) (by omega); omega
set_option maxHeartbeats 8000000 in
theorem limited32_p (l : Cx) (h0 : chkC l = 0) : Fn Tryz.prog 54 [dS Cpx l] (dB (decide (4096 < wholeN l 8))) := by
  (refine Fn.intro1 Tryz.func54 rfl rfl ?_; simp only [Tryz.ntmps54, List.length_cons, List.length_nil, Nat.reduceAdd, Nat.reduceSub, List.replicate_succ, List.replicate_zero, List.cons_append, List.nil_append])
  (repeat' (first | (apply WL.opN; exact yF; dsimp only [setD, z0, z1]) | refine WL.nil ?_ | refine WC.seqK fun Kx hK => ?_ | (refine hK _ _ ?_; clear hK) | refine WC.region ?_ | (apply WL.opN; (focus ((first | (apply SY.box; (exact oD); (exact hD)) | fail); all_goals infer_instance)); dsimp only [setD, z0, z1]) | refine WC.block ?_))
  (refine WC.loopU (X := Nat × Nat) (fun x => [(4, dI ((x.1 + 1 : Nat) : Int)), (3, dI (x.2 : Int)), (2, dA), (5, dA), (6, dA), (7, dA), (8, dA), (9, dA), (10, dA), (11, dA), (12, dA), (13, dA), (14, dA), (15, dA), (16, dA), (17, dA), (18, dA), (19, dA), (20, dA), (21, dA), (22, dA)]) (fun x => []) (fun x => 8 - x.1) (fun x => x.1 ≤ 8 ∧ x.2 = wholeN l x.1 ∧ x.2 ≤ 4096 * x.1) (0, 0) ?start ?frame0 ?objs0 ?round)
  case start => exact ⟨Nat.zero_le _, rfl, Nat.zero_le _⟩
  case frame0 => ((try dsimp only [upds, z0, z1]); repeat (first | exact LeF.nil | refine LeF.co (k := ?_)))
  case objs0 => rfl
  case round =>
    rintro ⟨k, n⟩ ⟨h1, h3, h4⟩
    simp only at h1 h3 h4
    dsimp only [upds, z0, z1]
    by_cases hk : k < 8
    · have c1 := simplices27_p l ((k + 1 : Nat) : Int)
      have hm := whole_mono l hk
      have e := wholeN_succ l k
      have et : (((k + 1 : Nat) : Int)).toNat = k + 1 := by omega
      by_cases hb : 4096 < (allC l (k + 1)).length
      · have es : simplC l ((k + 1 : Nat) : Int) = ([], 17) := by unfold simplC; rw [if_neg (by omega), if_neg (by omega), et, if_pos hb]
        rw [es] at c1
        ((repeat' (first | (apply WL.opN; exact yF; dsimp only [setD, z0, z1]) | refine WL.nil ?_ | refine WC.seqK fun Kx hK => ?_ | (refine hK _ _ ?_; clear hK) | refine WC.region ?_ | (apply WL.opN; (focus ((first | (apply SY.call (c1) Tryz.call40; (exact aD)) | ((first | apply SY.move | apply SY.assign | apply SY.leq | apply SY.gtr | apply SY.neq) <;> (exact oD)) | (apply SY.extract; (exact oD); rfl) | fail); all_goals infer_instance)); dsimp only [setD, z0, z1]) | (apply WC.condD; (exact oD); all_goals (intro h; try exact xD)) | (apply WC.condN; (exact oD); all_goals (intro h; try exact xD)) | refine WC.skip ?_ | refine WC.ret ?_ | refine WC.block ?_ | refine ThenD.r ?_ | refine InBlockD.r ?_)); all_goals (first | ((repeat clear hK); (repeat clear Kx))))
        all_goals first | (exfalso; omega) | skip
        (refine ⟨trivial, _, rfl, ?_⟩; refine FinD.b ?_)
        rw [decide_eq_true (by omega)]
      · have es : simplC l ((k + 1 : Nat) : Int) = (allC l (k + 1), 0) := by unfold simplC; rw [if_neg (by omega), if_neg (by omega), et, if_neg hb]
        rw [es] at c1
        generalize allC l (k + 1) = A at *
        ((repeat' (first | (apply WL.opN; exact yF; dsimp only [setD, z0, z1]) | refine WL.nil ?_ | refine WC.seqK fun Kx hK => ?_ | (refine hK _ _ ?_; clear hK) | refine WC.region ?_ | (apply WL.opN; (focus ((first | (apply SY.call (c1) Tryz.call40; (exact aD)) | ((first | apply SY.move | apply SY.assign | apply SY.leq | apply SY.gtr | apply SY.neq) <;> (exact oD)) | ((first | apply SY.add) <;> first | exact oD | omega) | (apply SY.len; (exact oD); (exact nD); (exact uD)) | (apply SY.extract; (exact oD); rfl) | fail); all_goals infer_instance)); dsimp only [setD, z0, z1]) | (apply WC.condD; (exact oD); all_goals (intro h; try exact xD)) | (apply WC.condN; (exact oD); all_goals (intro h; try exact xD)) | refine WC.skip ?_ | refine WC.block ?_ | refine ThenD.n ?_)); all_goals (first | ((repeat clear hK); (repeat clear Kx))))
        all_goals first | (exfalso; omega) | skip
        (refine ⟨(k + 1, n + A.length), ?_, by first | omega | (simp only; omega), rfl, ?_⟩; rotate_left; ((try dsimp only [upds, z0, z1]); repeat (first | exact LeF.nil | refine LeF.co (k := ?_))); (try dsimp only))
        exact ⟨by omega, by show n + _ = _; rw [e, ← h3], by show n + _ ≤ _; omega⟩
    · obtain rfl : k = 8 := by omega
      subst h3
      ((repeat' (first | (apply WL.opN; exact yF; dsimp only [setD, z0, z1]) | refine WL.nil ?_ | refine WC.seqK fun Kx hK => ?_ | (refine hK _ _ ?_; clear hK) | (refine Kont.skip ?_; clear hK) | refine WC.region ?_ | (apply WL.opN; (focus ((first | ((first | apply SY.move | apply SY.assign | apply SY.leq | apply SY.gtr | apply SY.neq) <;> (exact oD)) | fail); all_goals infer_instance)); dsimp only [setD, z0, z1]) | (apply WC.condD; (exact oD); all_goals (intro h; try exact xD)) | refine WC.ret ?_ | refine WC.exit ?_)); all_goals (first | ((repeat clear hK); (repeat clear Kx))))
      (refine ⟨trivial, _, rfl, ?_⟩; refine FinD.b ?_)
      exact decide_eq_decide.2 (by omega)
theorem sameV32_p (a b : List Vx) : Fn Tryz.prog 102 [dS Verts a, dS Verts b] (dB (decide (cmpL a b = 0))) := by
  (refine Fn.intro1 Tryz.func102 rfl rfl ?_; simp only [Tryz.ntmps102, List.length_cons, List.length_nil, Nat.reduceAdd, Nat.reduceSub, List.replicate_succ, List.replicate_zero, List.cons_append, List.nil_append])
  ((repeat' (first | (apply WL.opN; exact yF; dsimp only [setD, z0, z1]) | refine WL.nil ?_ | refine WC.seqK fun Kx hK => ?_ | (refine hK _ _ ?_; clear hK) | refine WC.region ?_ | (apply WL.opN; (focus ((first | (apply SY.call (cmpL_p a b) Tryz.call66; (exact aD)) | ((first | apply SY.move | apply SY.assign | apply SY.eql) <;> (exact oD)) | fail); all_goals infer_instance)); dsimp only [setD, z0, z1]) | refine WC.ret ?_)); all_goals (first | ((repeat clear hK); (repeat clear Kx))))
  (refine ⟨trivial, _, rfl, ?_⟩; exact fD)
end Go.Proofs.YtjbepoofigokjaaGreat
