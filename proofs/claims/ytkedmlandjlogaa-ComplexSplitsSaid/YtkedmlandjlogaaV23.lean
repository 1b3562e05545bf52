/-
  Part 23 of the texts that the claims of this seat lean on: walks of the program's functions by contracts over symbolic frames, and plain laws of what they compute. No condition.
-/
import Derived.Test.YtkedmlandjlogaaV11
import Derived.Test.YtkedmlandjlogaaV20
import Derived.Test.YtkedmlandjlogaaV21
import Derived.Test.YtkedmlandjlogaaV22
set_option linter.unusedVariables false
set_option linter.unusedSimpArgs false
set_option linter.unusedSectionVars false
namespace Go.Proofs.Ytkedmlandjlogaa
open Go.RowKit
set_option linter.unusedSimpArgs false

set_option maxHeartbeats 2000000
set_option maxRecDepth 100000
theorem CallC.nil1 {P : Program} {f : FuncId} {ds : List Dat} {hp1 : List HObj} {e : TypeId} {α : Type} {R : Rel α} {_gR : Good R} {xs : List α} (h : CallC P f ds hp1 fun d' hp2 => ∃ v, d' = dX v ∧ (hp2 = [hRow v e R xs] ∨ v = .slice none 0 0 ∧ xs = [] ∧ hp2 = [])) : CallC P f ds hp1 fun d' hp2 => ∃ v, d' = dX v ∧ hp2 = [hRow v e R xs] := ⟨fun P0 B w0 hp vs W hh hl hv => by
  refine Calls.mono (h.out P0 B w0 hp vs W hh hl hv) fun e' W' ⟨v, d, hp2, he, hk, hh2, hd⟩ => ?_
  obtain ⟨u, hdu, hk⟩ := hk
  rcases hk with rfl | ⟨rfl, rfl, rfl⟩
  · exact ⟨v, d, _, he, ⟨u, hdu, rfl⟩, hh2, hd⟩
  · exact ⟨v, d, [hRow (.slice none 0 0) e R []], he, ⟨_, hdu, rfl⟩, hh2.push (Ext.refl _) (by simp [hRow, Value.ownBlock]) Own.nil, Hp.pushed (Ext.refl _) (by simp [hRow, Value.ownBlock]) hd⟩⟩
theorem eqNilS : ∀ (x y : Operand) ad m c w, (do eqGuard .eql 22 x y (.slice ad m c) (.slice none 0 0); Go.binOp .eql 22 (.slice ad m c) (.slice none 0 0)).run Try.prog w = .ok (.bool ad.isNone) w := by
  intro x y ad m c w
  cases ad <;> (go_simp; try (unfold Go.binOp; simp only; unfold Op.equal Op.maxDepth Op.equalIn; simp [run_underlying Try.underlying22]))
theorem nil_A {α : Type} {R : Rel α} [Good R] {xs : List α} {I : Nat → Prop} {w : World} {v : Value} (h : (dS (Arr R) xs).rd I w v) : ∃ a m c, v = .slice a m c ∧ (a = none → m = 0) := by
  obtain ⟨ad, cap, rfl, h1, h2, h3⟩ := (h : Arr R I w v xs)
  refine ⟨_, _, _, rfl, fun hn => ?_⟩
  rcases Nat.eq_zero_or_pos xs.length with hz | hz
  · exact hz
  · obtain ⟨us, b, off, _, _, had, _, _⟩ := h3 0 hz
    rw [hn] at had; cases had
theorem clone_s (xs : Cx) (hl : xs.length ≤ 1000000) : CallC Try.prog 68 [dS Simps xs] [] fun d' hp2 => ∃ v, d' = dX v ∧ hp2 = [hRow v 25 Verts xs] := by
  refine CallC.nil1 ?_
  (refine CallC.intro Try.func68 rfl rfl (fun hp => ?_); simp only [Try.ntmps68, List.length_cons, List.length_nil, List.length_append, List.length_map, Nat.reduceAdd, Nat.reduceSub, List.replicate_succ, List.replicate_zero, List.cons_append, List.nil_append, List.map_cons, List.map_nil, List.append_assoc])
  ((repeat' (first |  (refine WL.openE 4 rfl fun b hb => ?_; dsimp only [z0, z1]) | (apply WL.opG; (focus (apply SYG.yes; (exact want_none rfl); (first | (apply SY.move <;> (exact oD)) | (apply SY.assign <;> (exact oD))))); dsimp only [setD, z0, z1]) | refine WL.nil ?_ | refine WC.seqK fun Kx hK => ?_ | (refine hK _ _ ?_; clear hK) | (refine Kont.skip ?_; clear hK) | refine WC.region ?_ |  (apply WL.build01 elSi Verts; (intro _; dsimp only [setD, z0, z1]); all_goals (try infer_instance)) | ((first | apply WL.pushK | apply WL.push1); (exact eD); exact OpD.t rfl; (exact oD); (intro _; first | exact shape_V | exact shape_I | exact shape_B | exact shape_A | exact shape_K); (exact (by simp)); (exact (by simp)); (first | exact ⟨by decide, by decide⟩ | skip); decide; (exact lD); (intro _; dsimp only [setD, z0, z1]); all_goals (try infer_instance)) | ((first | apply WL.appK | apply WL.app1); (exact eD); exact OpD.t rfl; (exact oD); decide; (exact lD); (intro _; dsimp only [setD, z0, z1]); all_goals (try infer_instance)) | ((apply (WL.perm (List.Perm.swap _ _ _)); (first | apply WL.pushK | apply WL.push1); (exact eD); exact OpD.t rfl; (exact oD); (intro _; first | exact shape_V | exact shape_I | exact shape_B | exact shape_A | exact shape_K); (exact (by simp)); (exact (by simp)); (first | exact ⟨by decide, by decide⟩ | skip); decide; (exact lD); (intro _; dsimp only [setD, z0, z1]); all_goals (try infer_instance))) | ((apply (WL.perm (List.Perm.swap _ _ _)); (first | apply WL.appK | apply WL.app1); (exact eD); exact OpD.t rfl; (exact oD); decide; (exact lD); (intro _; dsimp only [setD, z0, z1]); all_goals (try infer_instance))) | (apply WL.opG; (focus (apply SYG.yes; (exact want_none rfl); ((first | (apply SY.eqNil; exact OpD.t rfl; (exact fun _ _ _ h => nil_A h); exact len_A; exact eqNilS) | exact yMove | exact yAssign | exact yEql | exact yBuildslice | fail); all_goals infer_instance))); dsimp only [setD, z0, z1]) | (apply WC.condT; (exact oD); (with_reducible rfl)) | (apply WC.condF; (exact oD); (with_reducible rfl)) | (apply WC.condD; (exact oD); (all_goals intro h); (all_goals try (exfalso; first | omega | contradiction))) | (apply WC.condN; (exact oD); (all_goals intro h); (all_goals try (exfalso; first | omega | contradiction))) | (apply WC.condNB; (exact oD); (all_goals intro h); (all_goals try (exfalso; first | omega | contradiction))) | (apply WC.cond; (exact oD); (all_goals intro h); (all_goals try (exfalso; first | omega | contradiction))) | refine WC.skip ?_ | refine WC.ret ?_ | refine ThenD.n ?_ | refine ThenD.r ?_)); all_goals (first | refine WC.id ?_ | refine WL.id ?_ | refine WDs.id ?_ | ((repeat clear hK); (repeat clear Kx))))
  · exact ⟨trivial, _, [], rfl, rfl, _, rfl, .inr ⟨rfl, hb h, rfl⟩⟩
  · exact ⟨trivial, _, [_], rfl, rfl, _, rfl, .inl (by rw [List.nil_append])⟩
abbrev dEqL : Dat := dFun Try.prog (fun x : List Vx × List Vx => [dS Verts x.1, dS Verts x.2]) (fun x => dB (decide (x.1 = x.2)))
set_option maxHeartbeats 4000000 in
theorem compact_s (xs : Cx) (v : Value) (hs : SortL xs) (hl : xs.length ≤ 1000000) : CallC Try.prog 79 [dX v, dEqL] [hRow v 25 Verts xs] fun d' hp2 => ∃ v zs, (AscL zs ∧ ∀ u, u ∈ zs ↔ u ∈ xs) ∧ d' = dX v ∧ hp2 = [hRow v 25 Verts zs] := by
  (refine CallC.intro Try.func79 rfl rfl (fun hp => ?_); simp only [Try.ntmps79, List.length_cons, List.length_nil, List.length_append, List.length_map, Nat.reduceAdd, Nat.reduceSub, List.replicate_succ, List.replicate_zero, List.cons_append, List.nil_append, List.map_cons, List.map_nil, List.append_assoc])
  rcases Nat.lt_or_ge xs.length 2 with hx | hx
  · have ha : AscL xs := by
      match xs, hx with
      | [], _ => simp [AscL]
      | [x], _ => simp [AscL]
      | x :: y :: l, hx => simp at hx; omega
    ((repeat' (first | ((first | apply WL.opG | apply WD.op); (focus (apply SYG.yes; (exact want_none rfl); (first | (apply SY.move <;> (exact oD)) | (apply SY.assign <;> (exact oD)) | (apply SY.load; (exact tD); (exact OpD.t rfl))))); dsimp only [setD, z0, z1]) | refine WL.nil ?_ | refine WD.nil ?_ | refine WC.seqK fun Kx hK => ?_ | (refine hK _ _ ?_; clear hK) | (refine Kont.skip ?_; clear hK) | refine WC.region ?_ | (apply WC.draw; kernel_rfl; kernel_rfl) | (apply WL.storeF; (exact tD); rfl; (exact oD); (exact hD); dsimp only [setD, z0, z1]) | (apply WL.storeF2; (exact tD); rfl; (exact oD); (exact hD); dsimp only [setD, z0, z1]) | (apply WL.storeF3; (exact tD); rfl; (exact oD); (exact hD); dsimp only [setD, z0, z1]) | ((first | apply WL.opG | apply WD.op); (focus (apply SYG.yes; (exact want_none rfl); ((first | exact yMove | exact yAssign | exact yLss | exact yNot | exact yAdd | exact ySub | exact yLoad | exact yLoadh | exact yLen | exact yIndexaddr | exact yDyn | exact ySlice | fail); all_goals infer_instance))); dsimp only [setD, z0, z1]) | (apply WC.condT; (exact oD); (with_reducible rfl)) | (apply WC.condF; (exact oD); (with_reducible rfl)) | (apply WC.condD; (exact oD); (all_goals intro h); (all_goals try (exfalso; first | omega | contradiction))) | (apply WC.condN; (exact oD); (all_goals intro h); (all_goals try (exfalso; first | omega | contradiction))) | (apply WC.condNB; (exact oD); (all_goals intro h); (all_goals try (exfalso; first | omega | contradiction))) | (apply WC.cond; (exact oD); (all_goals intro h); (all_goals try (exfalso; first | omega | contradiction))) | refine WC.skip ?_ | refine WC.ret ?_ | refine WC.exit ?_ | refine WC.block ?_ | refine ThenD.n ?_ | refine ThenD.r ?_ | refine ThenD.x ?_ | refine InBlockD.x ?_ | refine InBlockD.n ?_ | refine InBlockD.r ?_ | refine InBlockD.y (by decide) ?_)); all_goals (first | refine WC.id ?_ | refine WL.id ?_ | refine WDs.id ?_ | ((repeat clear hK); (repeat clear Kx))))
    exact ⟨trivial, _, [_], rfl, rfl, _, xs, ⟨ha, fun _ => Iff.rfl⟩, rfl, rfl⟩
  refine WC.openQ (by omega) fun b cap hv hc1 hc2 => ?_
  subst hv
  ((repeat' (first | ((first | apply WL.opG | apply WD.op); (focus (apply SYG.yes; (exact want_none rfl); (first | (apply SY.move <;> (exact oD)) | (apply SY.assign <;> (exact oD)) | (apply SY.load; (exact tD); (exact OpD.t rfl))))); dsimp only [setD, z0, z1]) | refine WL.nil ?_ | refine WD.nil ?_ | refine WC.seqK fun Kx hK => ?_ | (refine hK _ _ ?_; clear hK) | (refine Kont.skip ?_; clear hK) | refine WC.region ?_ | (apply WC.draw; kernel_rfl; kernel_rfl) | (apply WL.storeF; (exact tD); rfl; (exact oD); (exact hD); dsimp only [setD, z0, z1]) | (apply WL.storeF2; (exact tD); rfl; (exact oD); (exact hD); dsimp only [setD, z0, z1]) | (apply WL.storeF3; (exact tD); rfl; (exact oD); (exact hD); dsimp only [setD, z0, z1]) | ((first | apply WL.opG | apply WD.op); (focus (apply SYG.yes; (exact want_none rfl); ((first | exact yMove | exact yAssign | exact yLss | exact yNot | exact yAdd | exact ySub | exact yLoad | exact yLoadh | exact yLen | exact yIndexaddr | exact yDyn | exact ySlice | fail); all_goals infer_instance))); dsimp only [setD, z0, z1]) | (apply WC.condT; (exact oD); (with_reducible rfl)) | (apply WC.condF; (exact oD); (with_reducible rfl)) | (apply WC.condD; (exact oD); (all_goals intro h); (all_goals try (exfalso; first | omega | contradiction))) | (apply WC.condN; (exact oD); (all_goals intro h); (all_goals try (exfalso; first | omega | contradiction))) | (apply WC.condNB; (exact oD); (all_goals intro h); (all_goals try (exfalso; first | omega | contradiction))) | (apply WC.cond; (exact oD); (all_goals intro h); (all_goals try (exfalso; first | omega | contradiction))) | refine WC.skip ?_ | refine WC.ret ?_ | refine WC.exit ?_ | refine WC.block ?_ | refine ThenD.n ?_ | refine ThenD.r ?_ | refine ThenD.x ?_ | refine InBlockD.x ?_ | refine InBlockD.n ?_ | refine InBlockD.r ?_ | refine InBlockD.y (by decide) ?_)); all_goals (first | refine WC.id ?_ | refine WL.id ?_ | refine WDs.id ?_ | ((repeat clear hK); (repeat clear Kx))))
  simp only [maxLen] at hc2
  (refine WC.loopU (X := Nat) (fun k => [(5, dI (k : Int)), (4, dA), (6, dA), (7, dA), (12, dA), (13, dA), (14, dA), (15, dA), (16, dA), (17, dA), (18, dA), (19, dA), (20, dA), (21, dA), (22, dA), (23, dA), (24, dA), (25, dA), (26, dA), (27, dA), (28, dA), (29, dA), (30, dA), (31, dA), (32, dA), (33, dA), (34, dA), (35, dA), (36, dA), (37, dA), (38, dA), (39, dA), (40, dA), (41, dA), (42, dA), (43, dA), (44, dA), (45, dA), (46, dA), (47, dA), (48, dA), (49, dA), (50, dA), (51, dA), (52, dA), (53, dA), (54, dA), (55, dA), (56, dA), (57, dA), (58, dA), (59, dA), (60, dA), (61, dA), (62, dA), (63, dA), (64, dA)]) (fun k => (hQ b xs.length cap 25 Verts xs :: hp)) (fun k => xs.length - k) (fun k => 1 ≤ k ∧ k ≤ xs.length ∧ GoodL xs k (xs.take k)) 1 ?start ?frame0 ?objs0 ?round)
  case start => exact ⟨Nat.le_refl _, by omega, goodL_start (by omega)⟩
  case frame0 => ((try dsimp only [upds, z0, z1]); repeat (first | exact LeF.nil | refine LeF.cons (by first | with_reducible exact Dat.le_any _ | with_reducible exact Dat.le_refl _ | exact le_ii (by omega) | exact Dat.le_nil | exact Dat.le_nilK (by decide) | assumption | exact Dat.le_refl _ | exact le_eq (by simp)) ?_))
  case objs0 => rfl
  case round =>
    rintro k ⟨h1, h2, h3⟩
    dsimp only [upds, z0, z1]
    ((repeat' (first | ((first | apply WL.opG | apply WD.op); (focus (apply SYG.yes; (exact want_none rfl); (first | (apply SY.move <;> (exact oD)) | (apply SY.assign <;> (exact oD)) | (apply SY.load; (exact tD); (exact OpD.t rfl))))); dsimp only [setD, z0, z1]) | refine WL.nil ?_ | refine WD.nil ?_ | refine WC.seqK fun Kx hK => ?_ | (refine hK _ _ ?_; clear hK) | (refine Kont.skip ?_; clear hK) | refine WC.region ?_ | (apply WC.draw; kernel_rfl; kernel_rfl) | (apply WL.storeF; (exact tD); rfl; (exact oD); (exact hD); dsimp only [setD, z0, z1]) | (apply WL.storeF2; (exact tD); rfl; (exact oD); (exact hD); dsimp only [setD, z0, z1]) | (apply WL.storeF3; (exact tD); rfl; (exact oD); (exact hD); dsimp only [setD, z0, z1]) | ((first | apply WL.opG | apply WD.op); (focus (apply SYG.yes; (exact want_none rfl); ((first | (apply SY.ixQ (k := k) elSi; exact OpD.t rfl; exact OpD.t rfl; rfl; omega) | (apply SY.ixQ (k := k - 1) elSi; exact OpD.t rfl; exact OpD.t rfl; omega; omega) | (apply SY.loadQ (k := k) tySi; exact OpD.t rfl; exact .head _; omega; omega) | (apply SY.loadQ (k := k - 1) tySi; exact OpD.t rfl; exact .head _; omega; omega) | (apply SY.dynF (x := ((xs[k], xs[k - 1]) : List Vx × List Vx)); (exact OpD.t rfl); (exact aD)) | (apply SY.fromQ (l := k) elSi; exact OpD.t rfl; exact OpD.t rfl; rfl; omega; omega) | exact yMove | exact yAssign | exact yLss | exact yNot | exact yAdd | exact ySub | exact yLoad | exact yLoadh | exact yLen | exact yIndexaddr | exact yDyn | exact ySlice | fail); all_goals infer_instance))); dsimp only [setD, z0, z1]) | (apply WC.condT; (exact oD); (with_reducible rfl)) | (apply WC.condF; (exact oD); (with_reducible rfl)) | (apply WC.condD; (exact oD); (all_goals intro h); (all_goals try (exfalso; first | omega | contradiction))) | (apply WC.condN; (exact oD); (all_goals intro h); (all_goals try (exfalso; first | omega | contradiction))) | (apply WC.condNB; (exact oD); (all_goals intro h); (all_goals try (exfalso; first | omega | contradiction))) | (apply WC.cond; (exact oD); (all_goals intro h); (all_goals try (exfalso; first | omega | contradiction))) | refine WC.skip ?_ | refine WC.ret ?_ | refine WC.exit ?_ | refine WC.block ?_ | refine ThenD.n ?_ | refine ThenD.r ?_ | refine ThenD.x ?_ | refine InBlockD.x ?_ | refine InBlockD.n ?_ | refine InBlockD.r ?_ | refine InBlockD.y (by decide) ?_)); all_goals (first | refine WC.id ?_ | refine WL.id ?_ | refine WDs.id ?_ | ((repeat clear hK); (repeat clear Kx))))
    · have hk : k < xs.length := by omega
      have hg := goodL_skip h3 h1 hk h
      (refine WC.loopU (X := Nat × Nat × Cx) (fun x => [(5, dI (x.2.1 : Int)), (7, dI (x.1 : Int)), (32, dA), (33, dA), (34, dA), (35, dA), (36, dA), (37, dA), (38, dA), (39, dA), (40, dA), (41, dA), (42, dA), (43, dA), (44, dA), (45, dA), (46, dA), (47, dA), (48, dA), (49, dA), (50, dA), (51, dA), (52, dA), (53, dA), (54, dA), (55, dA), (56, dA), (57, dA), (58, dA)]) (fun x => (hQ b xs.length cap 25 Verts x.2.2 :: hp)) (fun x => xs.length - k - x.1) (fun x => 1 ≤ x.1 ∧ k + x.1 ≤ xs.length ∧ x.2.1 + 1 ≤ k + x.1 ∧ x.2.2.length = xs.length ∧ GoodL xs (k + x.1) (x.2.2.take x.2.1) ∧ x.2.2.drop (k + x.1 - 1) = xs.drop (k + x.1 - 1)) (1, k, xs) ?start ?frame0 ?objs0 ?round)
      case start => exact ⟨Nat.le_refl _, by omega, Nat.le_refl _, rfl, hg, rfl⟩
      case frame0 => ((try dsimp only [upds, z0, z1]); repeat (first | exact LeF.nil | refine LeF.cons (by first | with_reducible exact Dat.le_any _ | with_reducible exact Dat.le_refl _ | exact le_ii (by omega) | exact Dat.le_nil | exact Dat.le_nilK (by decide) | assumption | exact Dat.le_refl _ | exact le_eq (by simp)) ?_))
      case objs0 => rfl
      case round =>
        rintro ⟨m, i, ys⟩ ⟨q1, q2, q3, q4, q5, q6⟩
        dsimp only [upds, z0, z1]
        simp only at q1 q2 q3 q4 q5 q6
        have hget : ∀ (j : Nat) (hj : k + m - 1 ≤ j) (hj' : j < xs.length), ys[j]'(by omega) = xs[j] := fun j hj hj' => by
          have e1 := congrArg (fun l => l[j - (k + m - 1)]?) q6
          simp only [List.getElem?_drop] at e1
          rw [show k + m - 1 + (j - (k + m - 1)) = j by omega, List.getElem?_eq_getElem (by omega), List.getElem?_eq_getElem hj'] at e1
          exact Option.some.inj e1
        ((repeat' (first | ((first | apply WL.opG | apply WD.op); (focus (apply SYG.yes; (exact want_none rfl); (first | (apply SY.move <;> (exact oD)) | (apply SY.assign <;> (exact oD)) | (apply SY.load; (exact tD); (exact OpD.t rfl))))); dsimp only [setD, z0, z1]) | refine WL.nil ?_ | refine WD.nil ?_ | refine WC.seqK fun Kx hK => ?_ | (refine hK _ _ ?_; clear hK) | (refine Kont.skip ?_; clear hK) | refine WC.region ?_ | (apply WC.draw; kernel_rfl; kernel_rfl) |  (apply WL.storeQ (k := i) tySi; exact OpD.t rfl; exact OpD.t rfl; exact shape_K; omega; omega; dsimp only [setD, z0, z1]) |  (apply WL.clearQ (k := i) (n := xs.length - i) (x0 := ([] : List Vx)) Try.underlying22 Try.zeroValue25 rfl (fun _ _ => ArrK.nil' (by decide)); exact OpD.t rfl; omega; omega; omega; dsimp only [setD, z0, z1]) |  (apply WL.uptoC1 (l := i) elSi; exact OpD.t rfl; exact OpD.t rfl; rfl; omega; omega; omega; (simp; omega); dsimp only [setD, z0, z1]) | (apply WL.storeF; (exact tD); rfl; (exact oD); (exact hD); dsimp only [setD, z0, z1]) | (apply WL.storeF2; (exact tD); rfl; (exact oD); (exact hD); dsimp only [setD, z0, z1]) | (apply WL.storeF3; (exact tD); rfl; (exact oD); (exact hD); dsimp only [setD, z0, z1]) | ((first | apply WL.opG | apply WD.op); (focus (apply SYG.yes; (exact want_none rfl); ((first | (apply SY.ixQ (k := m) elSi; exact OpD.t rfl; exact OpD.t rfl; rfl; omega) | (apply SY.ixQ (k := m - 1) elSi; exact OpD.t rfl; exact OpD.t rfl; omega; omega) | (apply SY.ixQ (k := i) elSi; exact OpD.t rfl; exact OpD.t rfl; rfl; omega) | (apply SY.loadQ (k := k + m) tySi; exact OpD.t rfl; exact .head _; omega; omega) | (apply SY.loadQ (k := k + m - 1) tySi; exact OpD.t rfl; exact .head _; omega; omega) | (apply SY.dynF (x := ((ys[k + m], ys[k + m - 1]) : List Vx × List Vx)); (exact OpD.t rfl); (exact aD)) | (apply SY.fromQ (l := i) elSi; exact OpD.t rfl; exact OpD.t rfl; rfl; omega; omega) | exact yMove | exact yAssign | exact yLss | exact yNot | exact yAdd | exact ySub | exact yLoad | exact yLoadh | exact yLen | exact yIndexaddr | exact yDyn | exact ySlice | fail); all_goals infer_instance))); dsimp only [setD, z0, z1]) | (apply WC.condT; (exact oD); (with_reducible rfl)) | (apply WC.condF; (exact oD); (with_reducible rfl)) | (apply WC.condD; (exact oD); (all_goals intro h); (all_goals try (exfalso; first | omega | contradiction))) | (apply WC.condN; (exact oD); (all_goals intro h); (all_goals try (exfalso; first | omega | contradiction))) | (apply WC.condNB; (exact oD); (all_goals intro h); (all_goals try (exfalso; first | omega | contradiction))) | (apply WC.cond; (exact oD); (all_goals intro h); (all_goals try (exfalso; first | omega | contradiction))) | refine WC.skip ?_ | refine WC.ret ?_ | refine WC.exit ?_ | refine WC.block ?_ | refine ThenD.n ?_ | refine ThenD.r ?_ | refine ThenD.x ?_ | refine InBlockD.x ?_ | refine InBlockD.n ?_ | refine InBlockD.r ?_ | refine InBlockD.y (by decide) ?_)); all_goals (first | refine WC.id ?_ | refine WL.id ?_ | refine WDs.id ?_ | ((repeat clear hK); (repeat clear Kx))))
        · have hkm : k + m < xs.length := by omega
          have e1 : ys[k + m]'(by omega) = xs[k + m] := hget _ (by omega) hkm
          have e2 : ys[k + m - 1]'(by omega) = xs[k + m - 1] := hget _ (by omega) (by omega)
          rw [e1, e2] at h
          rw [e1]
          (refine ⟨(m + 1, i + 1, ys.set i xs[k + m]), ?_, by first | omega | (simp only; omega), rfl, ?_⟩; rotate_left; ((try dsimp only [upds, z0, z1]); repeat (first | exact LeF.nil | refine LeF.cons (by first | with_reducible exact Dat.le_any _ | with_reducible exact Dat.le_refl _ | exact le_ii (by omega) | exact Dat.le_nil | exact Dat.le_nilK (by decide) | assumption | exact Dat.le_refl _ | exact le_eq (by simp)) ?_)); (try dsimp only))
          refine ⟨by omega, by omega, by omega, by simpa using q4, ?_, ?_⟩
          · have := goodL_push hs q5 (by omega) hkm h
            rw [Nat.add_assoc] at this
            have e3 : (ys.set i xs[k + m]).take (i + 1) = ys.take i ++ [xs[k + m]] := by
              rw [take_snoc' (by simp; omega), List.take_set_of_le (by omega)]
              simp
            rw [e3]; exact this
          · rw [show k + (m + 1) - 1 = (k + m - 1) + 1 by omega]
            have e4 : (ys.set i xs[k + m]).drop (k + m - 1 + 1) = ys.drop (k + m - 1 + 1) := by rw [List.drop_set_of_lt (by omega)]
            rw [e4]
            have := congrArg (List.drop 1) q6
            simpa [List.drop_drop] using this
        · have hkm : k + m < xs.length := by omega
          have e1 : ys[k + m]'(by omega) = xs[k + m] := hget _ (by omega) hkm
          have e2 : ys[k + m - 1]'(by omega) = xs[k + m - 1] := hget _ (by omega) (by omega)
          rw [e1, e2] at h
          (refine ⟨(m + 1, i, ys), ?_, by first | omega | (simp only; omega), rfl, ?_⟩; rotate_left; ((try dsimp only [upds, z0, z1]); repeat (first | exact LeF.nil | refine LeF.cons (by first | with_reducible exact Dat.le_any _ | with_reducible exact Dat.le_refl _ | exact le_ii (by omega) | exact Dat.le_nil | exact Dat.le_nilK (by decide) | assumption | exact Dat.le_refl _ | exact le_eq (by simp)) ?_)); (try dsimp only))
          refine ⟨by omega, by omega, by omega, q4, ?_, ?_⟩
          · have := goodL_skip q5 (by omega) hkm h
            rw [Nat.add_assoc] at this
            exact this
          · have := congrArg (List.drop 1) q6
            rw [List.drop_drop, List.drop_drop] at this
            rw [show k + (m + 1) - 1 = k + m - 1 + 1 by omega]
            exact this
        · have e1 : (ys.take i ++ List.replicate (xs.length - i) ([] : List Vx)).take i = ys.take i := by
            rw [List.take_left' (by simp; omega)]
          rw [e1]
          exact ⟨trivial, _, [_], rfl, rfl, _, _, goodL_end q5 (by omega), rfl, rfl⟩
    · (refine ⟨k + 1, ?_, by first | omega | (simp only; omega), rfl, ?_⟩; rotate_left; ((try dsimp only [upds, z0, z1]); repeat (first | exact LeF.nil | refine LeF.cons (by first | with_reducible exact Dat.le_any _ | with_reducible exact Dat.le_refl _ | exact le_ii (by omega) | exact Dat.le_nil | exact Dat.le_nilK (by decide) | assumption | exact Dat.le_refl _ | exact le_eq (by simp)) ?_)); (try dsimp only))
      refine ⟨by omega, by omega, ?_⟩
      rw [take_snoc' (by omega)]
      exact goodL_push hs h3 h1 (by omega) h
    · have e1 : xs.take k = xs := List.take_of_length_le (by omega)
      rw [e1] at h3
      exact ⟨trivial, _, [_], rfl, rfl, _, xs, goodL_end h3 (by omega), rfl, rfl⟩
end Go.Proofs.Ytkedmlandjlogaa
namespace Go.Proofs.Ytkedmlandjlogaa
theorem dropWhile_split (v : Vx) : ∀ b : List Vx, (v ∉ b ∧ (b.dropWhile fun x => decide (x ≠ v)) = []) ∨ ∃ pre c, b = pre ++ v :: c ∧ v ∉ pre ∧ (b.dropWhile fun x => decide (x ≠ v)) = v :: c
  | [] => .inl ⟨by simp, rfl⟩
  | x :: b => by
    by_cases hx : x = v
    · subst hx
      exact .inr ⟨[], b, rfl, by simp, by rw [List.dropWhile_cons_of_neg (by simp)]⟩
    · rw [List.dropWhile_cons_of_pos (by simpa using hx)]
      rcases dropWhile_split v b with ⟨h1, h2⟩ | ⟨pre, c, h1, h2, h3⟩
      · exact .inl ⟨by simp [h1, Ne.symm hx], h2⟩
      · exact .inr ⟨x :: pre, c, by rw [h1]; rfl, by simp [h2, Ne.symm hx], h3⟩
theorem cmpV_irr (v : Vx) : cmpV v v = 0 := cmpV_eq.2 rfl
theorem faceG_inside : ∀ (a b : List Vx), Asc a → Asc b → faceG a b = insideV a b
  | [], b, _, _ => rfl
  | v :: a, b, ha, hb => by
    have ha' := ha
    unfold Asc at ha'
    rw [List.pairwise_cons] at ha'
    unfold faceG
    rcases dropWhile_split v b with ⟨h1, h2⟩ | ⟨pre, c, h1, h2, h3⟩
    · rw [if_pos h2]
      unfold insideV
      simp [h1]
    · rw [h3, if_neg (by simp)]
      have hb' := hb
      unfold Asc at hb'
      rw [h1, List.pairwise_append] at hb'
      rw [faceG_inside a (v :: c) ha'.2 hb'.2.1]
      have hv : v ∈ b := by rw [h1]; simp
      unfold insideV
      rw [List.all_cons, decide_eq_true hv, Bool.true_and, Bool.eq_iff_iff, List.all_eq_true, List.all_eq_true]
      constructor
      · intro h x hx
        have := h x hx
        simp only [decide_eq_true_eq] at this ⊢
        rw [h1]; exact List.mem_append.2 (.inr this)
      · intro h x hx
        have := h x hx
        simp only [decide_eq_true_eq] at this ⊢
        rw [h1] at this
        rcases List.mem_append.1 this with hp | hp
        · have h5 := hb'.2.2 x hp v (by simp)
          have h6 := cmpV_trans h5 (ha'.1 x hx)
          rw [cmpV_irr] at h6; omega
        · exact hp
def addI (m : List (Vx × List Int)) (v : Vx) (i : Int) : List (Vx × List Int) := putM m v ((lookM m v).getD [] ++ [i])
def incS (m : List (Vx × List Int)) (s : List Vx) (i : Int) : List (Vx × List Int) := s.foldl (fun m v => addI m v i) m
def incC (l : Cx) : List (Vx × List Int) := (l.zipIdx).foldl (fun m p => incS m p.1 (p.2 : Int)) []
theorem incS_snoc {m : List (Vx × List Int)} {s : List Vx} {i : Int} {j : Nat} (h : j < s.length) : incS m (s.take (j + 1)) i = addI (incS m (s.take j) i) s[j] i := by
  unfold incS; rw [take_snoc' h, List.foldl_append]; rfl
theorem incC_snoc {l : Cx} {i : Nat} (h : i < l.length) : incC (l.take (i + 1)) = incS (incC (l.take i)) l[i] (i : Int) := by
  unfold incC
  rw [take_snoc' h, List.zipIdx_append, List.foldl_append]
  simp [List.length_take, Nat.min_eq_left (Nat.le_of_lt h)]
def atM (m : List (Vx × List Int)) (v : Vx) : List Int := (lookM m v).getD []
theorem lookM_putM {K V : Type} [DecidableEq K] {m : List (K × V)} {x y : K} {v : V} : lookM (putM m x v) y = if y = x then some v else lookM m y := by
  unfold putM
  by_cases h : (lookM m x).isSome
  · rw [if_pos h]
    induction m with
    | nil => simp [lookM] at h
    | cons p m ih =>
      rw [List.map_cons]
      by_cases hp : p.1 = x
      · rw [if_pos hp]
        by_cases hy : y = x
        · rw [if_pos hy]; unfold lookM
          rw [List.find?_cons_of_pos (by simp [hy])]; rfl
        · rw [if_neg hy]; unfold lookM
          rw [List.find?_cons_of_neg (by simpa using Ne.symm hy), List.find?_cons_of_neg (by rw [hp]; simpa using Ne.symm hy)]
          clear ih h hp
          induction m with
          | nil => rfl
          | cons q m ih =>
            rw [List.map_cons]
            by_cases hq : q.1 = x
            · rw [if_pos hq, List.find?_cons_of_neg (by simpa using Ne.symm hy), List.find?_cons_of_neg (by rw [hq]; simpa using Ne.symm hy)]
              exact ih
            · rw [if_neg hq]
              by_cases hqy : q.1 = y
              · rw [List.find?_cons_of_pos (by simpa using hqy), List.find?_cons_of_pos (by simpa using hqy)]
              · rw [List.find?_cons_of_neg (by simpa using hqy), List.find?_cons_of_neg (by simpa using hqy)]
                exact ih
      · rw [if_neg hp]
        have h' : (lookM m x).isSome := by
          unfold lookM at h ⊢
          rwa [List.find?_cons_of_neg (by simpa using hp)] at h
        have := ih h'
        unfold lookM at this ⊢
        by_cases hpy : p.1 = y
        · have hyx : y ≠ x := fun e => hp (hpy.trans e)
          rw [List.find?_cons_of_pos (by simpa using hpy), if_neg hyx, List.find?_cons_of_pos (by simpa using hpy)]
        · rw [List.find?_cons_of_neg (by simpa using hpy), List.find?_cons_of_neg (by simpa using hpy)]
          exact this
  · rw [if_neg h]
    have h0 : lookM m x = none := by simpa using h
    unfold lookM at h0 ⊢
    rw [List.find?_append]
    by_cases hy : y = x
    · subst hy
      rw [if_pos rfl]
      have : m.find? (fun p => decide (p.1 = y)) = none := by simpa using h0
      rw [this]; simp
    · rw [if_neg hy, List.find?_cons_of_neg (by simpa using Ne.symm hy)]
      simp
theorem atM_addI {m : List (Vx × List Int)} {v u : Vx} {i : Int} : atM (addI m v i) u = if u = v then atM m v ++ [i] else atM m u := by
  unfold atM addI
  rw [lookM_putM]
  split <;> rfl
theorem mem_incS {i j : Int} {v : Vx} : ∀ {s : List Vx} {m : List (Vx × List Int)}, j ∈ atM (incS m s i) v ↔ j ∈ atM m v ∨ (j = i ∧ v ∈ s)
  | [], m => by simp [incS]
  | u :: s, m => by
    show j ∈ atM (incS (addI m u i) s i) v ↔ _
    rw [mem_incS (s := s), atM_addI]
    by_cases hv : v = u
    · subst hv
      rw [if_pos rfl, List.mem_append, List.mem_singleton, List.mem_cons]
      constructor
      · rintro ((h | h) | h)
        · exact .inl h
        · exact .inr ⟨h, .inl rfl⟩
        · exact .inr ⟨h.1, .inr h.2⟩
      · rintro (h | h)
        · exact .inl (.inl h)
        · exact .inl (.inr h.1)
    · rw [if_neg hv, List.mem_cons]; simp [hv]
theorem mem_incC_take {l : Cx} {j : Int} {v : Vx} : ∀ {n : Nat}, n ≤ l.length → (j ∈ atM (incC (l.take n)) v ↔ ∃ (k : Nat) (h : k < l.length), k < n ∧ j = k ∧ v ∈ l[k])
  | 0, _ => by simp [incC, atM, lookM]
  | n + 1, hn => by
    rw [incC_snoc (by omega), mem_incS, mem_incC_take (by omega)]
    constructor
    · rintro (⟨k, h, h1, h2, h3⟩ | ⟨h1, h2⟩)
      · exact ⟨k, h, by omega, h2, h3⟩
      · exact ⟨n, by omega, by omega, h1, h2⟩
    · rintro ⟨k, h, h1, h2, h3⟩
      by_cases hk : k = n
      · subst hk; exact .inr ⟨h2, h3⟩
      · exact .inl ⟨k, h, by omega, h2, h3⟩
theorem mem_incC {l : Cx} {j : Int} {v : Vx} : j ∈ atM (incC l) v ↔ ∃ (k : Nat) (h : k < l.length), j = k ∧ v ∈ l[k] := by
  have := mem_incC_take (l := l) (j := j) (v := v) (Nat.le_refl _)
  rw [List.take_length] at this
  rw [this]
  exact ⟨fun ⟨k, h, _, h2, h3⟩ => ⟨k, h, h2, h3⟩, fun ⟨k, h, h2, h3⟩ => ⟨k, h, h, h2, h3⟩⟩
theorem atM_bnd {l : Cx} {v : Vx} : ∀ i ∈ atM (incC l) v, 0 ≤ i ∧ i < l.length := fun i hi => by
  obtain ⟨k, h, rfl, _⟩ := mem_incC.1 hi
  omega
theorem anyCov {l : Cx} (h : ∀ s ∈ l, chkV s = 0) {s : List Vx} (hs : chkV s = 0) {v : Vx} (hv : v ∈ s) : (atM (incC l) v).any (covI l s) = coveredC l s := by
  have asc : ∀ s ∈ l, Asc s := fun s hs => (chkV_zero.1 (h s hs)).2.2.2
  rw [Bool.eq_iff_iff, List.any_eq_true, coveredC_iff]
  constructor
  · rintro ⟨i, hi, hc⟩
    obtain ⟨k, hk, rfl, _⟩ := mem_incC.1 hi
    have hm := List.getElem_mem hk
    unfold covI at hc
    rw [Int.toNat_natCast, show l.getD k [] = l[k] by simp [List.getD, hk], Bool.and_eq_true, decide_eq_true_eq, faceG_inside _ _ (chkV_zero.1 hs).2.2.2 (asc _ hm)] at hc
    exact ⟨l[k], hm, hc.1, hc.2⟩
  · rintro ⟨x, hx, h1, h2⟩
    obtain ⟨k, hk, rfl⟩ := List.getElem_of_mem hx
    refine ⟨(k : Int), mem_incC.2 ⟨k, hk, rfl, ?_⟩, ?_⟩
    · unfold insideV at h2
      have := List.all_eq_true.1 h2 v hv
      simpa using this
    · unfold covI
      rw [Int.toNat_natCast, show l.getD k [] = l[k] by simp [List.getD, hk], Bool.and_eq_true, decide_eq_true_eq, faceG_inside _ _ (chkV_zero.1 hs).2.2.2 (asc _ hx)]
      exact ⟨h1, h2⟩
end Go.Proofs.Ytkedmlandjlogaa
namespace Go.Proofs.Ytkedmlandjlogaa
open Go.RowKit
set_option maxRecDepth 100000
theorem laidK : laidOutB Try.prog = true := by kernel_rfl
def is64 (n : Int) : Prop := -9223372036854775808 ≤ n ∧ n ≤ 9223372036854775807
theorem wf64 {n : Int} (h : is64 n) : (Lit.int .i64 n).wf = true := by
  obtain ⟨h1, h2⟩ := h
  show (decide (IntKind.i64.min ≤ n) && decide (n ≤ IntKind.i64.max)) = true
  have e1 : IntKind.i64.min = -9223372036854775808 := by decide
  have e2 : IntKind.i64.max = 9223372036854775807 := by decide
  rw [e1, e2, decide_eq_true h1, decide_eq_true h2]; rfl
def kvV (x : Int × Int) : Value := .agg #[.int .i64 x.1, .int .i64 x.2]
def okV (x : Int × Int) : Prop := is64 x.1 ∧ is64 x.2
theorem rowV' : 69 < Try.prog.types.size := of_decide_eq_true (by kernel_rfl)
theorem cellsV' : Try.prog.cellsOf 69 = 2 := by kernel_rfl
theorem cellsI' : Try.prog.cellsOf 3 = 1 := by kernel_rfl
theorem lits_V (d : Nat) {x : Int × Int} (h : okV x) : Try.prog.keyLits (d + 2) 69 [.int .i64 x.1, .int .i64 x.2] = some [.int .i64 x.1, .int .i64 x.2] := by
  obtain ⟨h1, h2⟩ := h
  unfold Program.keyLits
  simp only [Try.underlying69, cellsV']
  simp [cellsI', Program.keyLits, Try.underlying3, wf64 h1, wf64 h2]
theorem keyT_V : KeyT Try.prog 69 kvV okV where
  law := Go.Maps.Keyed.of_law (deep_law_laid laidK (m := 2) (by omega) rowV' (by kernel_rfl) (by rw [Try.underlying69]))
  lit := fun x h => by
    refine ⟨.string (keyBytes [.int .i64 x.1, .int .i64 x.2]), ?_⟩
    unfold keyOf
    simp only [Try.underlying69]
    have hk : Try.prog.keyType 69 = true := by kernel_rfl
    have hf : (kvV x).formed Try.prog 69 = true := by simp [kvV, Value.formed, Try.underlying69, cellsV']
    obtain ⟨d, hd⟩ : ∃ d, Try.prog.types.size = d + 1 := ⟨Try.prog.types.size - 1, by have := rowV'; omega⟩
    rw [hk, hf, hd]
    have := lits_V d h
    simp only [Bool.and_self, if_true]
    rw [show (kvV x).cells.toList = [.int .i64 x.1, .int .i64 x.2] from rfl, this]
    rfl
  inj := fun x y _ _ h => by
    unfold kvV at h
    simp at h
    exact Prod.ext h.1 h.2
def padK (s : List Vx) : List Vx := s ++ List.replicate (8 - s.length) (-1, 0)
def kvK (s : List Vx) : Value := .agg (flatV (padK s)).toArray
def okK (s : List Vx) : Prop := s.length ≤ 8 ∧ ∀ v ∈ s, okV v ∧ 0 ≤ v.1
theorem rowK' : 87 < Try.prog.types.size := of_decide_eq_true (by kernel_rfl)
theorem cellsK' : Try.prog.cellsOf 87 = 16 := by kernel_rfl
theorem padK_len {s : List Vx} (h : s.length ≤ 8) : (padK s).length = 8 := by unfold padK; simp; omega
theorem padK_ok {s : List Vx} (h : okK s) : ∀ v ∈ padK s, okV v := fun v hv => by
  unfold padK at hv
  rcases List.mem_append.1 hv with hv | hv
  · exact (h.2 v hv).1
  · rw [(List.mem_replicate.1 hv).2]; exact ⟨by unfold is64; omega, by unfold is64; omega⟩
theorem mapM_all {α β : Type} {f : α → Option β} {g : α → β} : ∀ (L : List α), (∀ i ∈ L, f i = some (g i)) → L.mapM f = some (L.map g)
  | [], _ => rfl
  | a :: L, h => by
    rw [List.mapM_cons, h a (by simp), mapM_all L fun i hi => h i (by simp [hi])]
    rfl
theorem flatV_at : ∀ (l : List Vx) (i : Nat) (h : i < l.length), ((flatV l).drop (i * 2)).take 2 = [.int .i64 l[i].1, .int .i64 l[i].2]
  | [], i, h => by simp at h
  | x :: l, 0, _ => by simp [flatV_cons]
  | x :: l, i + 1, h => by
    rw [flatV_cons, show (i + 1) * 2 = i * 2 + 2 by omega]
    simpa using flatV_at l i (by simpa using h)
theorem lits_K (d : Nat) {s : List Vx} (h : okK s) : ∃ l, Try.prog.keyLits (d + 3) 87 (flatV (padK s)) = some l := by
  have hl : (flatV (padK s)).length = 16 := by rw [flatV_len, padK_len h.1]
  unfold Program.keyLits
  simp only [Try.underlying87, cellsK', hl]
  simp only [if_true, cellsV']
  rw [mapM_all (g := fun i => [Lit.int .i64 ((padK s).getD i (0, 0)).1, Lit.int .i64 ((padK s).getD i (0, 0)).2]) _ fun i hi => ?_]
  · exact ⟨_, rfl⟩
  · have hi' : i < (padK s).length := by rw [padK_len h.1]; exact List.mem_range.1 hi
    rw [flatV_at _ i hi', lits_V d (padK_ok h _ (List.getElem_mem hi'))]
    simp [List.getD, hi']
theorem flatV_inj : ∀ {a b : List Vx}, flatV a = flatV b → a = b
  | [], [], _ => rfl
  | [], y :: b, h => by simp [flatV_cons, flatV_nil] at h
  | x :: a, [], h => by simp [flatV_cons, flatV_nil] at h
  | x :: a, y :: b, h => by
    rw [flatV_cons, flatV_cons] at h
    simp at h
    rw [Prod.ext h.1 h.2.1, flatV_inj h.2.2]
theorem padK_inj : ∀ {a b : List Vx}, (∀ v ∈ a, 0 ≤ v.1) → (∀ v ∈ b, 0 ≤ v.1) → padK a = padK b → a = b := by
  have go : ∀ {a b : List Vx} (i j : Nat), (∀ v ∈ a, 0 ≤ v.1) → (∀ v ∈ b, 0 ≤ v.1) → a ++ List.replicate i ((-1, 0) : Vx) = b ++ List.replicate j (-1, 0) → a = b := by
    intro a
    induction a with
    | nil =>
      intro b i j _ hb h
      cases b with
      | nil => rfl
      | cons y b =>
        cases i with
        | zero => simp at h
        | succ i =>
          rw [List.replicate_succ] at h
          simp at h
          have := hb y (by simp)
          rw [← h.1] at this
          simp at this
    | cons x a ih =>
      intro b i j ha hb h
      cases b with
      | nil =>
        cases j with
        | zero => simp at h
        | succ j =>
          rw [List.replicate_succ] at h
          simp at h
          have := ha x (by simp)
          rw [h.1] at this
          simp at this
      | cons y b =>
        simp only [List.cons_append, List.cons.injEq] at h
        rw [h.1, ih i j (fun v hv => ha v (by simp [hv])) (fun v hv => hb v (by simp [hv])) h.2]
  intro a b ha hb h
  exact go _ _ ha hb h
theorem keyT_K : KeyT Try.prog 87 kvK okK where
  law := Go.Maps.Keyed.of_law (deep_law_laid laidK (m := 3) (by omega) rowK' (by kernel_rfl) (by rw [Try.underlying87]))
  lit := fun s h => by
    obtain ⟨d, hd⟩ : ∃ d, Try.prog.types.size = d + 2 := ⟨Try.prog.types.size - 2, by have := rowK'; omega⟩
    obtain ⟨l, hl⟩ := lits_K d h
    refine ⟨.string (keyBytes l), ?_⟩
    unfold keyOf
    simp only [Try.underlying87]
    have hk : Try.prog.keyType 87 = true := by kernel_rfl
    have hf : (kvK s).formed Try.prog 87 = true := by
      simp [kvK, Value.formed, Try.underlying87, cellsK', flatV_len, padK_len h.1]
    rw [hk, hf, hd]
    simp only [Bool.and_self, if_true]
    rw [show (kvK s).cells.toList = flatV (padK s) from rfl, hl]
    rfl
  inj := fun x y hx hy h => by
    unfold kvK at h
    injection h with h
    exact padK_inj (fun v hv => (hx.2 v hv).2) (fun v hv => (hy.2 v hv).2) (flatV_inj (List.toArray_inj h))
theorem keyT_I : KeyT Try.prog 3 (fun n : Int => Value.int .i64 n) is64 where
  law := Go.Maps.int_keyed Try.underlying3
  lit := fun n h => ⟨_, Go.Maps.keyOf_int_mk Try.underlying3 (wf64 h)⟩
  inj := fun x y _ _ h => by injection h
end Go.Proofs.Ytkedmlandjlogaa
