/-
  Part 18 of the texts that the claims of this seat lean on: walks of the program's functions by contracts over symbolic frames, and plain laws of what they compute. No condition.
-/
import Derived.DeepKeys4
import Derived.Maps.Keyed
import Derived.Test.YtjbepoofigokjaaGreatVc15
import Derived.Test.YtjbepoofigokjaaGreatVc17
set_option linter.unusedVariables false
set_option linter.unusedSimpArgs false
set_option linter.unusedSectionVars false
namespace Go.Proofs.YtjbepoofigokjaaGreat
open Go.RowKit
set_option linter.unusedSimpArgs false

set_option maxHeartbeats 2000000
set_option maxRecDepth 100000
def covI (l : Cx) (s : List Vx) (i : Int) : Bool := decide (s.length < (l.getD i.toNat []).length) && faceG s (l.getD i.toNat [])
theorem cov1_p (l : Cx) (s : List Vx) (i : Int) (h0 : 0 ≤ i) (h1 : i < l.length) : Fn Tryz.prog 107 ([dI i] ++ [dP 1 false (dS Simps l), dP 1 false (dS Verts s)]) (dB (covI l s i)) := by
  obtain ⟨k, rfl⟩ : ∃ k : Nat, i = k := ⟨i.toNat, by omega⟩
  have hk : k < l.length := by omega
  have e : covI l s (k : Int) = (decide (s.length < l[k].length) && faceG s l[k]) := by
    unfold covI
    rw [Int.toNat_natCast, show l.getD k [] = l[k] by simp [List.getD, hk]]
  rw [e]
  show Fn Tryz.prog 107 [dI (k : Int), dP 1 false (dS Simps l), dP 1 false (dS Verts s)] _
  (refine Fn.intro1 Tryz.func107 rfl rfl ?_; simp only [Tryz.ntmps107, List.length_cons, List.length_nil, Nat.reduceAdd, Nat.reduceSub, List.replicate_succ, List.replicate_zero, List.cons_append, List.nil_append])
  ((repeat' (first | ((first | apply WL.opN | apply WD.opN); exact yF; dsimp only [setD, z0, z1]) | refine WL.nil ?_ | refine WD.nil ?_ | refine WC.seqK fun Kx hK => ?_ | (refine hK _ _ ?_; clear hK) | refine WC.region ?_ | (apply WC.draw; kernel_rfl; kernel_rfl) | ((first | apply WL.opG | apply WD.op); (focus (first | exact wN | (apply SYG.yes; (exact wY); ((first | (apply SY.call (face27_p _ _) Tryz.call108; (exact aD)) | exact yMove | exact yGtr | exact yLoad | exact yLen | exact yIndexaddr | exact yPick | fail); all_goals infer_instance)))); dsimp only [setD, z0, z1]) | ((first | refine WL.caseP rfl rfl rfl (fun h => ?_) (fun h => ?_) | refine WL.caseN rfl rfl rfl (fun h => ?_) (fun h => ?_) | refine WL.caseB rfl rfl rfl (fun h => ?_) (fun h => ?_) | refine WD.caseP rfl rfl rfl (fun h => ?_) (fun h => ?_) | refine WD.caseN rfl rfl rfl (fun h => ?_) (fun h => ?_) | refine WD.caseB rfl rfl rfl (fun h => ?_) (fun h => ?_)) <;> (first | (exfalso; first | omega | contradiction) | (dsimp only [z0, z1]))) | refine WC.ret ?_)); all_goals (first | ((repeat clear hK); (repeat clear Kx))))
  · rw [decide_eq_true (show s.length < l[k].length by omega), Bool.true_and]
    (refine ⟨trivial, _, rfl, ?_⟩; exact fD)
  · rw [decide_eq_false (show ¬ s.length < l[k].length by omega), Bool.false_and]
    (refine ⟨trivial, _, rfl, ?_⟩; exact fD)
abbrev MemI (l : List Int) := {v : Int // v ∈ l}
theorem coveredP_p (l : Cx) (at' : List Int) (s : List Vx) (hat : ∀ i ∈ at', 0 ≤ i ∧ i < l.length) : Fn Tryz.prog 68 [dS Simps l, dS Ints at', dS Verts s] (dB (at'.any (covI l s))) := by
  (refine Fn.intro1 Tryz.func68 rfl rfl ?_; simp only [Tryz.ntmps68, List.length_cons, List.length_nil, Nat.reduceAdd, Nat.reduceSub, List.replicate_succ, List.replicate_zero, List.cons_append, List.nil_append])
  ((repeat' (first | (apply WL.opN; exact yF; dsimp only [setD, z0, z1]) | refine WL.nil ?_ | refine WC.seqK fun Kx hK => ?_ | (refine hK _ _ ?_; clear hK) | refine WC.region ?_ | (apply WL.opN; (focus ((first | (apply SY.makeFun (A := fun v : MemI at' => [dI v.1]) (r := fun v => dB (covI l s v.1)) Tryz.call107 (fun v => cov1_p l s v.1 (hat v.1 v.2).1 (hat v.1 v.2).2) (fun _ => bare_B); (exact aD)) | (apply SY.call (cntI_p at' (covI l s)) Tryz.call106; (exact aD)) | exact yBox | fail); all_goals infer_instance)); dsimp only [setD, z0, z1]) | refine WC.ret ?_)); all_goals (first | ((repeat clear hK); (repeat clear Kx))))
  all_goals (refine ⟨trivial, _, rfl, ?_⟩; exact fD)
end Go.Proofs.YtjbepoofigokjaaGreat
namespace Go.Proofs.YtjbepoofigokjaaGreat
open Go.RowKit
set_option linter.unusedSimpArgs false

set_option maxHeartbeats 2000000
set_option maxRecDepth 100000
theorem CallC.nil1 {P : Program} {f : FuncId} {ds : List Dat} {hp1 : List HObj} {e : TypeId} {α : Type} {R : Rel α} {_gR : Good R} {xs : List α} (h : CallC P f ds hp1 fun d' hp2 => ∃ v, d' = dX v ∧ (hp2 = [hRow v e R xs] ∨ v = .slice none 0 0 ∧ xs = [] ∧ hp2 = [])) : CallC P f ds hp1 fun d' hp2 => ∃ v, d' = dX v ∧ hp2 = [hRow v e R xs] := ⟨fun P0 B w0 hp vs W hh hl hv => by
  refine Calls.mono (h.out P0 B w0 hp vs W hh hl hv) fun e' W' ⟨v, d, hp2, he, hk, hh2, hd⟩ => ?_
  obtain ⟨u, hdu, hk⟩ := hk
  rcases hk with rfl | ⟨rfl, rfl, rfl⟩
  · exact ⟨v, d, _, he, ⟨u, hdu, rfl⟩, hh2, hd⟩
  · exact ⟨v, d, [hRow (.slice none 0 0) e R []], he, ⟨_, hdu, rfl⟩, hh2.push (Ext.refl _) (by simp [hRow, Value.ownBlock]) Own.nil, Hp.pushed (Ext.refl _) (by simp [hRow, Value.ownBlock]) hd⟩⟩
theorem eqNilS : ∀ (x y : Operand) ad m c w, (do eqGuard .eql 22 x y (.slice ad m c) (.slice none 0 0); Go.binOp .eql 22 (.slice ad m c) (.slice none 0 0)).run Tryz.prog w = .ok (.bool ad.isNone) w := by
  intro x y ad m c w
  cases ad <;> (go_simp; try (unfold Go.binOp; simp only; unfold Op.equal Op.maxDepth Op.equalIn; simp [run_underlying Tryz.underlying22]))
theorem nil_A {α : Type} {R : Rel α} [Good R] {xs : List α} {I : Nat → Prop} {w : World} {v : Value} (h : (dS (Arr R) xs).rd I w v) : ∃ a m c, v = .slice a m c ∧ (a = none → m = 0) := by
  obtain ⟨ad, cap, rfl, h1, h2, h3⟩ := (h : Arr R I w v xs)
  refine ⟨_, _, _, rfl, fun hn => ?_⟩
  rcases Nat.eq_zero_or_pos xs.length with hz | hz
  · exact hz
  · obtain ⟨us, b, off, _, _, had, _, _⟩ := h3 0 hz
    rw [hn] at had; cases had
theorem clone_s (xs : Cx) (hl : xs.length ≤ 1000000) : CallC Tryz.prog 74 [dS Simps xs] [] fun d' hp2 => ∃ v, d' = dX v ∧ hp2 = [hRow v 34 Verts xs] := by
  refine CallC.nil1 ?_
  (refine CallC.intro Tryz.func74 rfl rfl (fun hp => ?_); simp only [Tryz.ntmps74, List.length_cons, List.length_nil, List.length_append, List.length_map, Nat.reduceAdd, Nat.reduceSub, List.replicate_succ, List.replicate_zero, List.cons_append, List.nil_append, List.map_cons, List.map_nil, List.append_assoc])
  ((repeat' (first |  (refine WL.openE 4 rfl fun b hb => ?_; dsimp only [z0, z1]) | (apply WL.opN; exact yF; dsimp only [setD, z0, z1]) | refine WL.nil ?_ | refine WC.seqK fun Kx hK => ?_ | (refine hK _ _ ?_; clear hK) | refine WC.region ?_ |  (apply WL.build01 elSi Verts; (intro _; dsimp only [setD, z0, z1]); all_goals (try infer_instance)) | ((first | apply WL.appK | apply WL.app1); (exact eD); exact OpD.t rfl; (exact oD); decide; (exact lD); (intro _; dsimp only [setD, z0, z1]); all_goals (try infer_instance)) | (apply WL.opN; (focus ((first | (apply SY.eqNil; exact OpD.t rfl; (exact fun _ _ _ h => nil_A h); exact len_A; exact eqNilS) | fail); all_goals infer_instance)); dsimp only [setD, z0, z1]) | (apply WC.cond; (exact oD); all_goals (intro h; try exact xD)) | refine WC.skip ?_ | refine WC.ret ?_ | refine ThenD.r ?_)); all_goals (first | ((repeat clear hK); (repeat clear Kx))))
  · exact ⟨trivial, _, [], rfl, rfl, _, rfl, .inr ⟨rfl, hb h, rfl⟩⟩
  · exact ⟨trivial, _, [_], rfl, rfl, _, rfl, .inl (by rw [List.nil_append])⟩
abbrev dEqL : Dat := dFun Tryz.prog (fun x : List Vx × List Vx => [dS Verts x.1, dS Verts x.2]) (fun x => dB (decide (x.1 = x.2)))
set_option maxHeartbeats 4000000 in
theorem compact_s (xs : Cx) (v : Value) (hs : SortL xs) (hl : xs.length ≤ 1000000) : CallC Tryz.prog 103 [dX v, dEqL] [hRow v 34 Verts xs] fun d' hp2 => ∃ v zs, (AscL zs ∧ ∀ u, u ∈ zs ↔ u ∈ xs) ∧ d' = dX v ∧ hp2 = [hRow v 34 Verts zs] := by
  (refine CallC.intro Tryz.func103 rfl rfl (fun hp => ?_); simp only [Tryz.ntmps103, List.length_cons, List.length_nil, List.length_append, List.length_map, Nat.reduceAdd, Nat.reduceSub, List.replicate_succ, List.replicate_zero, List.cons_append, List.nil_append, List.map_cons, List.map_nil, List.append_assoc])
  rcases Nat.lt_or_ge xs.length 2 with hx | hx
  · have ha : AscL xs := by
      match xs, hx with
      | [], _ => simp [AscL]
      | [x], _ => simp [AscL]
      | x :: y :: l, hx => simp at hx; omega
    ((repeat' (first | ((first | apply WL.opN | apply WD.opN); exact yF; dsimp only [setD, z0, z1]) | refine WL.nil ?_ | refine WC.seqK fun Kx hK => ?_ | (refine hK _ _ ?_; clear hK) | refine WC.region ?_ | ((first | apply WL.opN | apply WD.opN); (focus ((first | exact yLss | exact yLen | fail); all_goals infer_instance)); dsimp only [setD, z0, z1]) | (apply WC.condD; (exact oD); all_goals (intro h; try exact xD)) | refine WC.ret ?_ | refine ThenD.r ?_)); all_goals (first | ((repeat clear hK); (repeat clear Kx))))
    exact ⟨trivial, _, [_], rfl, rfl, _, xs, ⟨ha, fun _ => Iff.rfl⟩, rfl, rfl⟩
  refine WC.openQ (by omega) fun b cap hv hc1 hc2 => ?_
  subst hv
  (repeat' (first | ((first | apply WL.opN | apply WD.opN); exact yF; dsimp only [setD, z0, z1]) | refine WL.nil ?_ | refine WC.seqK fun Kx hK => ?_ | (refine hK _ _ ?_; clear hK) | refine WC.region ?_ | ((first | apply WL.opN | apply WD.opN); (focus ((first | exact yLss | exact yLen | fail); all_goals infer_instance)); dsimp only [setD, z0, z1]) | (apply WC.condD; (exact oD); all_goals (intro h; try exact xD)) | refine WC.skip ?_ | refine WC.block ?_))
  simp only [maxLen] at hc2
  (refine WC.loopU (X := Nat) (fun k => [(5, dI (k : Int)), (4, dA), (6, dA), (7, dA), (12, dA), (13, dA), (14, dA), (15, dA), (16, dA), (17, dA), (18, dA), (19, dA), (20, dA), (21, dA), (22, dA), (23, dA), (24, dA), (25, dA), (26, dA), (27, dA), (28, dA), (29, dA), (30, dA), (31, dA), (32, dA), (33, dA), (34, dA), (35, dA), (36, dA), (37, dA), (38, dA), (39, dA), (40, dA), (41, dA), (42, dA), (43, dA), (44, dA), (45, dA), (46, dA), (47, dA), (48, dA), (49, dA), (50, dA), (51, dA), (52, dA), (53, dA), (54, dA), (55, dA), (56, dA), (57, dA), (58, dA), (59, dA), (60, dA), (61, dA), (62, dA), (63, dA), (64, dA)]) (fun k => (hQ b xs.length cap 34 Verts xs :: hp)) (fun k => xs.length - k) (fun k => 1 ≤ k ∧ k ≤ xs.length ∧ GoodL xs k (xs.take k)) 1 ?start ?frame0 ?objs0 ?round)
  case start => exact ⟨Nat.le_refl _, by omega, goodL_start (by omega)⟩
  case frame0 => ((try dsimp only [upds, z0, z1]); repeat (first | exact LeF.nil | refine LeF.co (k := ?_)))
  case objs0 => rfl
  case round =>
    rintro k ⟨h1, h2, h3⟩
    dsimp only [upds, z0, z1]
    ((repeat' (first | ((first | apply WL.opN | apply WD.opN); exact yF; dsimp only [setD, z0, z1]) | refine WL.nil ?_ | refine WD.nil ?_ | refine WC.seqK fun Kx hK => ?_ | (refine hK _ _ ?_; clear hK) | (refine Kont.skip ?_; clear hK) | refine WC.region ?_ | (apply WC.draw; kernel_rfl; kernel_rfl) | ((first | apply WL.opN | apply WD.opN); (focus ((first | (apply SY.ixQ (k := k) elSi; exact OpD.t rfl; exact OpD.t rfl; rfl; omega) | (apply SY.ixQ (k := k - 1) elSi; exact OpD.t rfl; exact OpD.t rfl; omega; omega) | (apply SY.loadQ (k := k) tySi; exact OpD.t rfl; exact .head _; omega; omega) | (apply SY.loadQ (k := k - 1) tySi; exact OpD.t rfl; exact .head _; omega; omega) | (apply SY.dynF (x := ((xs[k], xs[k - 1]) : List Vx × List Vx)); (exact OpD.t rfl); (exact aD)) | (apply SY.fromQ (l := k) elSi; exact OpD.t rfl; exact OpD.t rfl; rfl; omega; omega) | exact yLss | exact yAdd | exact ySub | exact yLen | fail); all_goals infer_instance)); dsimp only [setD, z0, z1]) | (apply WC.condD; (exact oD); all_goals (intro h; try exact xD)) | refine WC.skip ?_ | refine WC.ret ?_ | refine WC.exit ?_ | refine WC.block ?_ | refine ThenD.n ?_)); all_goals (first | refine WC.id ?_ | ((repeat clear hK); (repeat clear Kx))))
    · have hk : k < xs.length := by omega
      have hg := goodL_skip h3 h1 hk h
      (refine WC.loopU (X := Nat × Nat × Cx) (fun x => [(5, dI (x.2.1 : Int)), (7, dI (x.1 : Int)), (32, dA), (33, dA), (34, dA), (35, dA), (36, dA), (37, dA), (38, dA), (39, dA), (40, dA), (41, dA), (42, dA), (43, dA), (44, dA), (45, dA), (46, dA), (47, dA), (48, dA), (49, dA), (50, dA), (51, dA), (52, dA), (53, dA), (54, dA), (55, dA), (56, dA), (57, dA), (58, dA)]) (fun x => (hQ b xs.length cap 34 Verts x.2.2 :: hp)) (fun x => xs.length - k - x.1) (fun x => 1 ≤ x.1 ∧ k + x.1 ≤ xs.length ∧ x.2.1 + 1 ≤ k + x.1 ∧ x.2.2.length = xs.length ∧ GoodL xs (k + x.1) (x.2.2.take x.2.1) ∧ x.2.2.drop (k + x.1 - 1) = xs.drop (k + x.1 - 1)) (1, k, xs) ?start ?frame0 ?objs0 ?round)
      case start => exact ⟨Nat.le_refl _, by omega, Nat.le_refl _, rfl, hg, rfl⟩
      case frame0 => ((try dsimp only [upds, z0, z1]); repeat (first | exact LeF.nil | refine LeF.co (k := ?_)))
      case objs0 => rfl
      case round =>
        rintro ⟨m, i, ys⟩ ⟨q1, q2, q3, q4, q5, q6⟩
        dsimp only [upds, z0, z1]
        simp only at q1 q2 q3 q4 q5 q6
        have hget : ∀ (j : Nat) (hj : k + m - 1 ≤ j) (hj' : j < xs.length), ys[j]'(by omega) = xs[j] := fun j hj hj' => by
          have e1 := congrArg (fun l => l[j - (k + m - 1)]?) q6
          simp only [List.getElem?_drop] at e1
          rw [show k + m - 1 + (j - (k + m - 1)) = j by omega, List.getElem?_eq_getElem (by omega), List.getElem?_eq_getElem hj'] at e1
          exact Option.some.inj e1
        ((repeat' (first | ((first | apply WL.opN | apply WD.opN); exact yF; dsimp only [setD, z0, z1]) | refine WL.nil ?_ | refine WD.nil ?_ | refine WC.seqK fun Kx hK => ?_ | (refine hK _ _ ?_; clear hK) | (refine Kont.skip ?_; clear hK) | refine WC.region ?_ | (apply WC.draw; kernel_rfl; kernel_rfl) |  (apply WL.storeQ (k := i) tySi; exact OpD.t rfl; exact OpD.t rfl; exact shape_K; omega; omega; dsimp only [setD, z0, z1]) |  (apply WL.clearQ (k := i) (n := xs.length - i) (x0 := ([] : List Vx)) Tryz.underlying22 Tryz.zeroValue34 rfl (fun _ _ => ArrK.nil' (by decide)); exact OpD.t rfl; omega; omega; omega; dsimp only [setD, z0, z1]) |  (apply WL.uptoC1 (l := i) elSi; exact OpD.t rfl; exact OpD.t rfl; rfl; omega; omega; omega; (simp; omega); dsimp only [setD, z0, z1]) | ((first | apply WL.opN | apply WD.opN); (focus ((first | (apply SY.ixQ (k := m) elSi; exact OpD.t rfl; exact OpD.t rfl; rfl; omega) | (apply SY.ixQ (k := m - 1) elSi; exact OpD.t rfl; exact OpD.t rfl; omega; omega) | (apply SY.ixQ (k := i) elSi; exact OpD.t rfl; exact OpD.t rfl; rfl; omega) | (apply SY.loadQ (k := k + m) tySi; exact OpD.t rfl; exact .head _; omega; omega) | (apply SY.loadQ (k := k + m - 1) tySi; exact OpD.t rfl; exact .head _; omega; omega) | (apply SY.dynF (x := ((ys[k + m], ys[k + m - 1]) : List Vx × List Vx)); (exact OpD.t rfl); (exact aD)) | (apply SY.fromQ (l := i) elSi; exact OpD.t rfl; exact OpD.t rfl; rfl; omega; omega) | exact yLss | exact yNot | exact yAdd | exact ySub | exact yLen | fail); all_goals infer_instance)); dsimp only [setD, z0, z1]) | (apply WC.condD; (exact oD); all_goals (intro h; try exact xD)) | (apply WC.condN; (exact oD); all_goals (intro h; try exact xD)) | refine WC.skip ?_ | refine WC.ret ?_ | refine WC.exit ?_ | refine WC.block ?_ | refine ThenD.n ?_ | refine ThenD.r ?_ | refine InBlockD.r ?_)); all_goals (first | ((repeat clear hK); (repeat clear Kx))))
        · have hkm : k + m < xs.length := by omega
          have e1 : ys[k + m]'(by omega) = xs[k + m] := hget _ (by omega) hkm
          have e2 : ys[k + m - 1]'(by omega) = xs[k + m - 1] := hget _ (by omega) (by omega)
          rw [e1, e2] at h
          rw [e1]
          (refine ⟨(m + 1, i + 1, ys.set i xs[k + m]), ?_, by first | omega | (simp only; omega), rfl, ?_⟩; rotate_left; ((try dsimp only [upds, z0, z1]); repeat (first | exact LeF.nil | refine LeF.co (k := ?_))); (try dsimp only))
          refine ⟨by omega, by omega, by omega, by simpa using q4, ?_, ?_⟩
          · have := goodL_push hs q5 (by omega) hkm h
            rw [Nat.add_assoc] at this
            have e3 : (ys.set i xs[k + m]).take (i + 1) = ys.take i ++ [xs[k + m]] := by
              rw [take_snoc' (by simp; omega), List.take_set_of_le (by omega)]
              simp
            rw [e3]; exact this
          · rw [show k + (m + 1) - 1 = (k + m - 1) + 1 by omega]
            have e4 : (ys.set i xs[k + m]).drop (k + m - 1 + 1) = ys.drop (k + m - 1 + 1) := by rw [List.drop_set_of_lt (by omega)]
            rw [e4]
            have := congrArg (List.drop 1) q6
            simpa [List.drop_drop] using this
        · have hkm : k + m < xs.length := by omega
          have e1 : ys[k + m]'(by omega) = xs[k + m] := hget _ (by omega) hkm
          have e2 : ys[k + m - 1]'(by omega) = xs[k + m - 1] := hget _ (by omega) (by omega)
          rw [e1, e2] at h
          (refine ⟨(m + 1, i, ys), ?_, by first | omega | (simp only; omega), rfl, ?_⟩; rotate_left; ((try dsimp only [upds, z0, z1]); repeat (first | exact LeF.nil | refine LeF.co (k := ?_))); (try dsimp only))
          refine ⟨by omega, by omega, by omega, q4, ?_, ?_⟩
          · have := goodL_skip q5 (by omega) hkm h
            rw [Nat.add_assoc] at this
            exact this
          · have := congrArg (List.drop 1) q6
            rw [List.drop_drop, List.drop_drop] at this
            rw [show k + (m + 1) - 1 = k + m - 1 + 1 by omega]
            exact this
        · have e1 : (ys.take i ++ List.replicate (xs.length - i) ([] : List Vx)).take i = ys.take i := by
            rw [List.take_left' (by simp; omega)]
          rw [e1]
          exact ⟨trivial, _, [_], rfl, rfl, _, _, goodL_end q5 (by omega), rfl, rfl⟩
    · (refine ⟨k + 1, ?_, by first | omega | (simp only; omega), rfl, ?_⟩; rotate_left; ((try dsimp only [upds, z0, z1]); repeat (first | exact LeF.nil | refine LeF.co (k := ?_))); (try dsimp only))
      refine ⟨by omega, by omega, ?_⟩
      rw [take_snoc' (by omega)]
      exact goodL_push hs h3 h1 (by omega) h
    · have e1 : xs.take k = xs := List.take_of_length_le (by omega)
      rw [e1] at h3
      exact ⟨trivial, _, [_], rfl, rfl, _, xs, goodL_end h3 (by omega), rfl, rfl⟩
end Go.Proofs.YtjbepoofigokjaaGreat
namespace Go.Proofs.YtjbepoofigokjaaGreat
open Go.RowKit

def entriesM : Nat → List (Value × Value) → List MapEntry
  | _, [] => []
  | i, p :: m => ⟨p.1, p.2, i⟩ :: entriesM (i + 1) m
def mapObj (m : List (Value × Value)) : Obj := .map (entriesM 0 m).toArray m.length
theorem entriesM_len : ∀ (m : List (Value × Value)) (i : Nat), (entriesM i m).length = m.length
  | [], _ => rfl
  | _ :: m, i => by simp [entriesM, entriesM_len m]
theorem entriesM_get : ∀ (m : List (Value × Value)) (i j : Nat) (h : j < m.length), (entriesM i m)[j]'(by rw [entriesM_len]; exact h) = ⟨m[j].1, m[j].2, i + j⟩
  | [], _, j, h => by simp at h
  | p :: m, i, 0, _ => by simp [entriesM]
  | p :: m, i, j + 1, h => by
    simp only [entriesM, List.getElem_cons_succ]
    rw [entriesM_get m (i + 1) j (by simpa using h)]
    congr 1; omega
theorem entriesM_snoc : ∀ (m : List (Value × Value)) (i : Nat) (p : Value × Value), entriesM i (m ++ [p]) = entriesM i m ++ [⟨p.1, p.2, i + m.length⟩]
  | [], i, p => by simp [entriesM]
  | q :: m, i, p => by
    simp only [List.cons_append, entriesM, entriesM_snoc m (i + 1) p, List.length_cons]
    congr 4; omega
theorem entriesM_set : ∀ (m : List (Value × Value)) (i j : Nat) (p : Value × Value), entriesM i (m.set j p) = (entriesM i m).set j ⟨p.1, p.2, i + j⟩
  | [], _, _, _ => rfl
  | q :: m, i, 0, p => by simp [entriesM]
  | q :: m, i, j + 1, p => by
    simp only [List.set_cons_succ, entriesM, entriesM_set m (i + 1) j p]
    congr 3; omega
structure KeyT (P : Program) (k : TypeId) {K : Type} (kv : K → Value) (ok : K → Prop) : Prop where
  law : Go.Maps.Keyed P k
  lit : ∀ x, ok x → ∃ l, keyOf P k (kv x) = some l
  inj : ∀ x y, ok x → ok y → kv x = kv y → x = y
structure MapT (P : Program) (t k e : TypeId) (z : Value) : Prop where
  under : P.underlying t = some (.map k e)
  zero : ∀ w, (zeroValue e).run P w = .ok z w
section
variable {P : Program} {k t e : TypeId} {z : Value} {K V : Type} {kv : K → Value} {ok : K → Prop} {vv : V → Value}
def encM (kv : K → Value) (vv : V → Value) (m : List (K × V)) : List (Value × Value) := m.map fun p => (kv p.1, vv p.2)
def lookM [DecidableEq K] (m : List (K × V)) (x : K) : Option V := (m.find? fun p => decide (p.1 = x)).map (·.2)
theorem find_key (H : KeyT P k kv ok) {m : List (K × V)} (hm : ∀ p ∈ m, ok p.1) {x : K} (hx : ok x) (w : World) :
    ((Instr.findKey k (kv x) (entriesM 0 (encM kv vv m))).run P w = .ok none w ∧ ∀ p ∈ m, p.1 ≠ x) ∨
    ∃ (j : Nat) (h : j < m.length), m[j].1 = x ∧ (Instr.findKey k (kv x) (entriesM 0 (encM kv vv m))).run P w = .ok (some (j, vv m[j].2)) w := by
  obtain ⟨lx, hlx⟩ := H.lit x hx
  have hl : (encM kv vv m).length = m.length := by simp [encM]
  have hat : ∀ (j : Nat) (h : j < m.length), (entriesM 0 (encM kv vv m))[j]'(by rw [entriesM_len, hl]; exact h) = ⟨kv m[j].1, vv m[j].2, j⟩ := fun j h => by
    rw [entriesM_get _ _ _ (by rw [hl]; exact h)]
    simp [encM]
  have hk : ∀ en ∈ entriesM 0 (encM kv vv m), ∃ l, keyOf P k en.key = some l := fun en hen => by
    obtain ⟨j, hj, rfl⟩ := List.getElem_of_mem hen
    have hj' : j < m.length := by rw [entriesM_len, hl] at hj; exact hj
    rw [hat j hj']
    exact H.lit _ (hm _ (List.getElem_mem hj'))
  rcases H.law.find w hlx _ hk with ⟨h1, h2⟩ | ⟨j, en, h1, h2, h3⟩
  · refine .inl ⟨h1, fun p hp hpx => ?_⟩
    obtain ⟨j, hj, rfl⟩ := List.getElem_of_mem hp
    have hj' : j < (entriesM 0 (encM kv vv m)).length := by rw [entriesM_len, hl]; exact hj
    refine h2 _ (List.getElem_mem hj') ?_
    rw [hat j hj, hpx]
  · have hj := (List.getElem?_eq_some_iff.1 h2).1
    have hj' : j < m.length := by rw [entriesM_len, hl] at hj; exact hj
    have he : en = ⟨kv m[j].1, vv m[j].2, j⟩ := by rw [← hat j hj', (List.getElem?_eq_some_iff.1 h2).2]
    refine .inr ⟨j, hj', H.inj _ _ (hm _ (List.getElem_mem hj')) hx ?_, ?_⟩
    · rw [← h3, he]
    · rw [h1, he]
section
variable [DecidableEq K]
theorem lookM_none {m : List (K × V)} {x : K} (h : ∀ p ∈ m, p.1 ≠ x) : lookM m x = none := by
  unfold lookM
  rw [List.find?_eq_none.2 (fun p hp => by simpa using h p hp)]; rfl
theorem lookM_some {m : List (K × V)} (hn : (m.map (·.1)).Nodup) {j : Nat} (h : j < m.length) : lookM m m[j].1 = some m[j].2 := by
  induction m generalizing j with
  | nil => simp at h
  | cons p m ih =>
    rw [List.map_cons, List.nodup_cons] at hn
    cases j with
    | zero => simp [lookM]
    | succ j =>
      have hj : j < m.length := by simpa using h
      have hne : ¬ p.1 = m[j].1 := fun e => hn.1 (e ▸ List.mem_map_of_mem (List.getElem_mem hj))
      have := ih hn.2 hj
      unfold lookM at this ⊢
      simp only [List.getElem_cons_succ]
      rw [List.find?_cons_of_neg (by simpa using hne)]
      exact this
def putM (m : List (K × V)) (x : K) (v : V) : List (K × V) := if (lookM m x).isSome then m.map fun p => if p.1 = x then (x, v) else p else m ++ [(x, v)]
theorem putM_new {m : List (K × V)} {x : K} {v : V} (h : ∀ p ∈ m, p.1 ≠ x) : putM m x v = m ++ [(x, v)] := by
  unfold putM; rw [lookM_none h]; rfl
theorem putM_set {m : List (K × V)} (hn : (m.map (·.1)).Nodup) {v : V} {j : Nat} (h : j < m.length) : putM m m[j].1 v = m.set j (m[j].1, v) := by
  unfold putM
  rw [lookM_some hn h]
  simp only [Option.isSome_some, if_true]
  apply List.ext_getElem (by simp)
  intro i h1 h2
  have hi : i < m.length := by simpa using h1
  rw [List.getElem_map, List.getElem_set]
  by_cases hij : j = i
  · subst hij; simp
  · rw [if_neg hij, if_neg]
    intro e
    refine hij ?_
    have h1 : (m.map (·.1))[i]'(by simpa using hi) = (m.map (·.1))[j]'(by simpa using h) := by simpa using e
    exact ((List.getElem_inj hn).1 h1).symm
theorem run_lookup (T : MapT P t k e z) (H : KeyT P k kv ok) {m : List (K × V)} (hm : ∀ p ∈ m, ok p.1) (hn : (m.map (·.1)).Nodup) {x : K} (hx : ok x) {w : World} {b : Nat} (hb : w.heap[b]? = some (mapObj (encM kv vv m))) (c : Bool) :
    (Instr.lookup t (.map (some b)) (kv x) c).run P w = .ok (if c then .tuple #[((lookM m x).map vv).getD z, .bool (lookM m x).isSome] else ((lookM m x).map vv).getD z) w := by
  obtain ⟨lx, hlx⟩ := H.lit x hx
  have hg := MapKept.run_getObj_map (P := P) (show w.heap[b]? = some (.map _ _) from hb)
  rcases find_key (vv := vv) H hm hx w with ⟨h1, h2⟩ | ⟨j, hj, h1, h2⟩
  · rw [lookM_none h2]
    simp [Instr.lookup, run_underlying T.under, hg, H.law.check w _ hlx, h1, T.zero, Result.andThen]
  · subst h1
    rw [lookM_some hn hj]
    simp [Instr.lookup, run_underlying T.under, hg, H.law.check w _ hlx, h2, Result.andThen]
theorem run_update (T : MapT P t k e z) (H : KeyT P k kv ok) {m : List (K × V)} (hm : ∀ p ∈ m, ok p.1) (hn : (m.map (·.1)).Nodup) {x : K} (hx : ok x) (v : V) {w : World} {b : Nat} (hb : w.heap[b]? = some (mapObj (encM kv vv m))) :
    (Instr.mapUpdate t (.map (some b)) (kv x) (vv v)).run P w = .ok () { w with heap := w.heap.setIfInBounds b (mapObj (encM kv vv (putM m x v))) } := by
  obtain ⟨lx, hlx⟩ := H.lit x hx
  have hl : (encM kv vv m).length = m.length := by simp [encM]
  have hg := MapKept.run_getObj_map (P := P) (show w.heap[b]? = some (.map _ _) from hb)
  rcases find_key (vv := vv) H hm hx w with ⟨h1, h2⟩ | ⟨j, hj, h1, h2⟩
  · have e1 : mapObj (encM kv vv (putM m x v)) = .map ((entriesM 0 (encM kv vv m)).toArray.push ⟨kv x, vv v, (encM kv vv m).length⟩) ((encM kv vv m).length + 1) := by
      rw [putM_new h2]
      unfold mapObj
      rw [show encM kv vv (m ++ [(x, v)]) = encM kv vv m ++ [(kv x, vv v)] by simp [encM], entriesM_snoc]
      simp
    rw [e1]
    simp [Instr.mapUpdate, run_underlying T.under, hg, H.law.check w _ hlx, h1, MapKept.run_setObj_map _ (show w.heap[b]? = some (.map _ _) from hb), Result.andThen]
  · subst h1
    have hj' : j < (entriesM 0 (encM kv vv m)).length := by rw [entriesM_len, hl]; exact hj
    have hat : (entriesM 0 (encM kv vv m))[j]? = some ⟨kv m[j].1, vv m[j].2, 0 + j⟩ := by
      rw [List.getElem?_eq_getElem hj', entriesM_get _ _ _ (by rw [hl]; exact hj)]
      simp [encM]
    have e1 : mapObj (encM kv vv (putM m m[j].1 v)) = .map ((entriesM 0 (encM kv vv m)).toArray.modify j fun en => { en with key := kv m[j].1, val := vv v }) (encM kv vv m).length := by
      rw [putM_set hn hj]
      unfold mapObj
      rw [show encM kv vv (m.set j (m[j].1, v)) = (encM kv vv m).set j (kv m[j].1, vv v) by simp [encM, List.map_set], entriesM_set, List.length_set]
      congr 1
      apply Array.ext'
      rw [Array.toList_modify, ChangeMaps.modify_eq_set _ _ _ _ (by simpa using hat)]
      simp
    rw [e1]
    simp [Instr.mapUpdate, run_underlying T.under, hg, H.law.check w _ hlx, h2, hat, H.law.stays w hlx, MapKept.run_setObj_map _ (show w.heap[b]? = some (.map _ _) from hb), Result.andThen]
omit [DecidableEq K] in
theorem mapObj_set {m : List (K × V)} {j : Nat} (hj : j < m.length) (f : MapEntry → MapEntry) (x : K) (v : V) (hf : ∀ i, f ⟨kv m[j].1, vv m[j].2, i⟩ = ⟨kv x, vv v, i⟩) :
    mapObj (encM kv vv (m.set j (x, v))) = .map ((entriesM 0 (encM kv vv m)).toArray.modify j f) (encM kv vv m).length := by
  have hl : (encM kv vv m).length = m.length := by simp [encM]
  have hj' : j < (entriesM 0 (encM kv vv m)).length := by rw [entriesM_len, hl]; exact hj
  have hat : (entriesM 0 (encM kv vv m))[j]? = some ⟨kv m[j].1, vv m[j].2, 0 + j⟩ := by
    rw [List.getElem?_eq_getElem hj', entriesM_get _ _ _ (by rw [hl]; exact hj)]
    simp [encM]
  unfold mapObj
  rw [show encM kv vv (m.set j (x, v)) = (encM kv vv m).set j (kv x, vv v) by simp [encM, List.map_set], entriesM_set, List.length_set]
  congr 1
  apply Array.ext'
  rw [Array.toList_modify, ChangeMaps.modify_eq_set _ _ _ _ (by simpa using hat), hf]
  simp
omit [DecidableEq K] in
theorem run_entry (T : MapT P t k e z) (H : KeyT P k kv ok) {m : List (K × V)} (hm : ∀ p ∈ m, ok p.1) {x : K} (hx : ok x) {w : World} {b : Nat} (hb : w.heap[b]? = some (mapObj (encM kv vv m))) :
    (∃ (j : Nat) (h : j < m.length), m[j].1 = x ∧ (Instr.mapEntry t (.map (some b)) (kv x)).run P w = .ok (.tuple #[vv m[j].2, .int .i64 j]) { w with heap := w.heap.setIfInBounds b (mapObj (encM kv vv m)) }) ∨
    ((∀ p ∈ m, p.1 ≠ x) ∧ ∀ zv, vv zv = z → (Instr.mapEntry t (.map (some b)) (kv x)).run P w = .ok (.tuple #[z, .int .i64 m.length]) { w with heap := w.heap.setIfInBounds b (mapObj (encM kv vv (m ++ [(x, zv)]))) }) := by
  obtain ⟨lx, hlx⟩ := H.lit x hx
  have hl : (encM kv vv m).length = m.length := by simp [encM]
  have hg := MapKept.run_getObj_map (P := P) (show w.heap[b]? = some (.map _ _) from hb)
  rcases find_key (vv := vv) H hm hx w with ⟨h1, h2⟩ | ⟨j, hj, h1, h2⟩
  · refine .inr ⟨h2, fun zv hz => ?_⟩
    have e1 : mapObj (encM kv vv (m ++ [(x, zv)])) = .map ((entriesM 0 (encM kv vv m)).toArray.push ⟨kv x, z, (encM kv vv m).length⟩) ((encM kv vv m).length + 1) := by
      unfold mapObj
      rw [show encM kv vv (m ++ [(x, zv)]) = encM kv vv m ++ [(kv x, z)] by simp [encM, hz], entriesM_snoc]
      simp
    rw [e1]
    simp [Instr.mapEntry, run_underlying T.under, hg, H.law.check w _ hlx, h1, T.zero, MapKept.run_setObj_map _ (show w.heap[b]? = some (.map _ _) from hb), Result.andThen, goInt, hl]
  · refine .inl ⟨j, hj, h1, ?_⟩
    subst h1
    have hj' : j < (entriesM 0 (encM kv vv m)).length := by rw [entriesM_len, hl]; exact hj
    have hat : (entriesM 0 (encM kv vv m))[j]? = some ⟨kv m[j].1, vv m[j].2, 0 + j⟩ := by
      rw [List.getElem?_eq_getElem hj', entriesM_get _ _ _ (by rw [hl]; exact hj)]
      simp [encM]
    have e1 := mapObj_set (kv := kv) (vv := vv) hj (fun en => { en with key := kv m[j].1 }) m[j].1 m[j].2 (fun _ => rfl)
    have e2 : m.set j (m[j].1, m[j].2) = m := List.set_getElem_self hj
    rw [e2] at e1
    rw [e1]
    simp [Instr.mapEntry, run_underlying T.under, hg, H.law.check w _ hlx, h2, hat, H.law.stays w hlx, MapKept.run_setObj_map _ (show w.heap[b]? = some (.map _ _) from hb), Result.andThen, goInt]
omit [DecidableEq K] in
theorem run_entryStore {m : List (K × V)} {j : Nat} (hj : j < m.length) (v : V) {w : World} {b : Nat} (hb : w.heap[b]? = some (mapObj (encM kv vv m))) :
    (Instr.entryStore t (.map (some b)) (.int .i64 j) (vv v)).run P w = .ok () { w with heap := w.heap.setIfInBounds b (mapObj (encM kv vv (m.set j (m[j].1, v)))) } := by
  have hl : (encM kv vv m).length = m.length := by simp [encM]
  have hg := MapKept.run_getObj_map (P := P) (show w.heap[b]? = some (.map _ _) from hb)
  have hf : (entriesM 0 (encM kv vv m)).findIdx? (fun en => (en.born : Int) == (j : Int)) = some j := by
    have hlen : (entriesM 0 (encM kv vv m)).length = m.length := by rw [entriesM_len, hl]
    have hat : ∀ (i : Nat) (h : i < m.length), (entriesM 0 (encM kv vv m))[i]'(by rw [hlen]; exact h) = ⟨kv m[i].1, vv m[i].2, i⟩ := fun i h => by
      rw [entriesM_get _ _ _ (by rw [hl]; exact h)]
      simp [encM]
    rw [List.findIdx?_eq_some_iff_getElem]
    refine ⟨by rw [hlen]; exact hj, ?_, fun i hi => ?_⟩
    · rw [hat j hj]; exact beq_self_eq_true _
    · rw [hat i (by omega)]; show ¬ ((i : Int) == (j : Int)) = true; rw [beq_iff_eq]; omega
  rw [mapObj_set hj (fun en => { en with val := vv v }) m[j].1 v (fun _ => rfl)]
  simp [Instr.entryStore, hg, asInt, asIntOf, hf, MapKept.run_setObj_map _ (show w.heap[b]? = some (.map _ _) from hb), Result.andThen]
end
end
end Go.Proofs.YtjbepoofigokjaaGreat
