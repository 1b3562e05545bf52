/- Part 25: walks by contracts, and plain laws. -/
import Derived.Test.YtgppfikidagfpaaGreatDoorVf24
set_option linter.unusedVariables false
set_option linter.unusedSimpArgs false
set_option linter.unusedSectionVars false
namespace Go.Proofs.YtgppfikidagfpaaGreatDoor
open Go.RowKit
set_option linter.unusedSimpArgs false

set_option maxHeartbeats 2000000
set_option maxRecDepth 100000
theorem CallC.nil1 {P : Program} {f : FuncId} {ds : List Dat} {hp1 : List HObj} {e : TypeId} {α : Type} {R : Rel α} {_gR : Good R} {xs : List α} (h : CallC P f ds hp1 fun d' hp2 => ∃ v, d' = dX v ∧ (hp2 = [hRow v e R xs] ∨ v = .slice none 0 0 ∧ xs = [] ∧ hp2 = [])) : CallC P f ds hp1 fun d' hp2 => ∃ v, d' = dX v ∧ hp2 = [hRow v e R xs] := ⟨fun P0 B w0 hp vs W hh hl hv => by
  refine Calls.mono (h.out P0 B w0 hp vs W hh hl hv) fun e' W' ⟨v, d, hp2, he, hk, hh2, hd⟩ => ?_
  obtain ⟨u, hdu, hk⟩ := hk
  rcases hk with rfl | ⟨rfl, rfl, rfl⟩
  · exact ⟨v, d, _, he, ⟨u, hdu, rfl⟩, hh2, hd⟩
  · exact ⟨v, d, [hRow (.slice none 0 0) e R []], he, ⟨_, hdu, rfl⟩, hh2.push (Ext.refl _) (by simp [hRow, Value.ownBlock]) Own.nil, Hp.pushed (Ext.refl _) (by simp [hRow, Value.ownBlock]) hd⟩⟩
theorem eqNilS : ∀ (x y : Operand) ad m c w, (do eqGuard .eql 37 x y (.slice ad m c) (.slice none 0 0); Go.binOp .eql 37 (.slice ad m c) (.slice none 0 0)).run Tryz.prog w = .ok (.bool ad.isNone) w := by
  intro x y ad m c w
  cases ad <;> (go_simp; try (unfold Go.binOp; simp only; unfold Op.equal Op.maxDepth Op.equalIn; simp [run_underlying Tryz.underlying37]))
theorem nil_A {α : Type} {R : Rel α} [Good R] {xs : List α} {I : Nat → Prop} {w : World} {v : Value} (h : (dS (Arr R) xs).rd I w v) : ∃ a m c, v = .slice a m c ∧ (a = none → m = 0) := by
  obtain ⟨ad, cap, rfl, h1, h2, h3⟩ := (h : Arr R I w v xs)
  refine ⟨_, _, _, rfl, fun hn => ?_⟩
  rcases Nat.eq_zero_or_pos xs.length with hz | hz
  · exact hz
  · obtain ⟨us, b, off, _, _, had, _, _⟩ := h3 0 hz
    rw [hn] at had; cases had
theorem clone_s (xs : Cx) (hl : xs.length ≤ 1000000) : CallC Tryz.prog 131 [dS Simps xs] [] fun d' hp2 => ∃ v, d' = dX v ∧ hp2 = [hRow v 22 Verts xs] := by
  refine CallC.nil1 ?_
  (refine CallC.intro Tryz.func131 rfl rfl (fun hp => ?_); simp only [Tryz.ntmps131, List.length_cons, List.length_nil, List.length_append, List.length_map, Nat.reduceAdd, Nat.reduceSub, List.replicate_succ, List.replicate_zero, List.cons_append, List.nil_append, List.map_cons, List.map_nil, List.append_assoc])
  ((repeat' (first |  (refine WL.openE 4 rfl fun b hb => ?_; dsimp only [z0, z1]) | (apply WL.opN; exact yF; dsimp only [setD, z0, z1]) | refine WL.nil ?_ | refine WC.seqK fun Kx hK => ?_ | (refine hK _ _ ?_; clear hK) | refine WC.region ?_ |  (apply WL.build01 elSi Verts; (intro _; dsimp only [setD, z0, z1]); all_goals (try infer_instance)) | ((first | apply WL.appK | apply WL.app1); (exact eD); exact OpD.t rfl; (exact oD); decide; (exact lD); (intro _; dsimp only [setD, z0, z1]); all_goals (try infer_instance)) | (apply WL.opN; (focus ((first | (apply SY.eqNil; exact OpD.t rfl; (exact fun _ _ _ h => nil_A h); exact len_A; exact eqNilS) | fail); all_goals infer_instance)); dsimp only [setD, z0, z1]) | (apply WC.cond; (exact oD); all_goals (intro h; try exact xD)) | refine WC.skip ?_ | refine WC.ret ?_ | refine ThenD.r ?_)); all_goals (first | ((repeat clear hK); (repeat clear Kx))))
  · exact ⟨trivial, _, [], rfl, rfl, _, rfl, .inr ⟨rfl, hb h, rfl⟩⟩
  · exact ⟨trivial, _, [_], rfl, rfl, _, rfl, .inl (by rw [List.nil_append])⟩
abbrev dEqL : Dat := dFun Tryz.prog (fun x : List Vx × List Vx => [dS Verts x.1, dS Verts x.2]) (fun x => dB (decide (x.1 = x.2)))
set_option maxHeartbeats 4000000 in
theorem compact_s (xs : Cx) (v : Value) (hs : SortL xs) (hl : xs.length ≤ 1000000) : CallC Tryz.prog 133 [dX v, dEqL] [hRow v 22 Verts xs] fun d' hp2 => ∃ v zs, (AscL zs ∧ ∀ u, u ∈ zs ↔ u ∈ xs) ∧ d' = dX v ∧ hp2 = [hRow v 22 Verts zs] := by
  (refine CallC.intro Tryz.func133 rfl rfl (fun hp => ?_); simp only [Tryz.ntmps133, List.length_cons, List.length_nil, List.length_append, List.length_map, Nat.reduceAdd, Nat.reduceSub, List.replicate_succ, List.replicate_zero, List.cons_append, List.nil_append, List.map_cons, List.map_nil, List.append_assoc])
  rcases Nat.lt_or_ge xs.length 2 with hx | hx
  · have ha : AscL xs := by
      match xs, hx with
      | [], _ => simp [AscL]
      | [x], _ => simp [AscL]
      | x :: y :: l, hx => simp at hx; omega
    ((repeat' (first | ((first | apply WL.opN | apply WD.opN); exact yF; dsimp only [setD, z0, z1]) | refine WL.nil ?_ | refine WC.seqK fun Kx hK => ?_ | (refine hK _ _ ?_; clear hK) | refine WC.region ?_ | ((first | apply WL.opN | apply WD.opN); (focus ((first | exact yLss | exact yLen | fail); all_goals infer_instance)); dsimp only [setD, z0, z1]) | (apply WC.condD; (exact oD); all_goals (intro h; try exact xD)) | refine WC.ret ?_ | refine ThenD.r ?_)); all_goals (first | ((repeat clear hK); (repeat clear Kx))))
    exact ⟨trivial, _, [_], rfl, rfl, _, xs, ⟨ha, fun _ => Iff.rfl⟩, rfl, rfl⟩
  refine WC.openQ (by omega) fun b cap hv hc1 hc2 => ?_
  subst hv
  (repeat' (first | ((first | apply WL.opN | apply WD.opN); exact yF; dsimp only [setD, z0, z1]) | refine WL.nil ?_ | refine WC.seqK fun Kx hK => ?_ | (refine hK _ _ ?_; clear hK) | refine WC.region ?_ | ((first | apply WL.opN | apply WD.opN); (focus ((first | exact yLss | exact yLen | fail); all_goals infer_instance)); dsimp only [setD, z0, z1]) | (apply WC.condD; (exact oD); all_goals (intro h; try exact xD)) | refine WC.skip ?_ | refine WC.block ?_))
  simp only [maxLen] at hc2
  (refine WC.loopU (X := Nat) (fun k => [(5, dI (k : Int)), (4, dA), (6, dA), (7, dA), (12, dA), (13, dA), (14, dA), (15, dA), (16, dA), (17, dA), (18, dA), (19, dA), (20, dA), (21, dA), (22, dA), (23, dA), (24, dA), (25, dA), (26, dA), (27, dA), (28, dA), (29, dA), (30, dA), (31, dA), (32, dA), (33, dA), (34, dA), (35, dA), (36, dA), (37, dA), (38, dA), (39, dA), (40, dA), (41, dA), (42, dA), (43, dA), (44, dA), (45, dA), (46, dA), (47, dA), (48, dA), (49, dA), (50, dA), (51, dA), (52, dA), (53, dA), (54, dA), (55, dA), (56, dA), (57, dA), (58, dA), (59, dA), (60, dA), (61, dA), (62, dA), (63, dA), (64, dA)]) (fun k => (hQ b xs.length cap 22 Verts xs :: hp)) (fun k => xs.length - k) (fun k => 1 ≤ k ∧ k ≤ xs.length ∧ GoodL xs k (xs.take k)) 1 ?start ?frame0 ?objs0 ?round)
  case start => exact ⟨Nat.le_refl _, by omega, goodL_start (by omega)⟩
  case frame0 => ((try dsimp only [upds, z0, z1]); repeat (first | exact LeF.nil | refine LeF.co (k := ?_)))
  case objs0 => rfl
  case round =>
    rintro k ⟨h1, h2, h3⟩
    dsimp only [upds, z0, z1]
    ((repeat' (first | ((first | apply WL.opN | apply WD.opN); exact yF; dsimp only [setD, z0, z1]) | refine WL.nil ?_ | refine WD.nil ?_ | refine WC.seqK fun Kx hK => ?_ | (refine hK _ _ ?_; clear hK) | (refine Kont.skip ?_; clear hK) | refine WC.region ?_ | (apply WC.draw; kernel_rfl; kernel_rfl) | ((first | apply WL.opN | apply WD.opN); (focus ((first | (apply SY.ixQ (k := k) elSi; exact OpD.t rfl; exact OpD.t rfl; rfl; omega) | (apply SY.ixQ (k := k - 1) elSi; exact OpD.t rfl; exact OpD.t rfl; omega; omega) | (apply SY.loadQ (k := k) tySi; exact OpD.t rfl; exact .head _; omega; omega) | (apply SY.loadQ (k := k - 1) tySi; exact OpD.t rfl; exact .head _; omega; omega) | (apply SY.dynF (x := ((xs[k], xs[k - 1]) : List Vx × List Vx)); (exact OpD.t rfl); (exact aD)) | (apply SY.fromQ (l := k) elSi; exact OpD.t rfl; exact OpD.t rfl; rfl; omega; omega) | exact yLss | exact yAdd | exact ySub | exact yLen | fail); all_goals infer_instance)); dsimp only [setD, z0, z1]) | (apply WC.condD; (exact oD); all_goals (intro h; try exact xD)) | refine WC.skip ?_ | refine WC.ret ?_ | refine WC.exit ?_ | refine WC.block ?_ | refine ThenD.n ?_)); all_goals (first | refine WC.id ?_ | ((repeat clear hK); (repeat clear Kx))))
    · have hk : k < xs.length := by omega
      have hg := goodL_skip h3 h1 hk h
      (refine WC.loopU (X := Nat × Nat × Cx) (fun x => [(5, dI (x.2.1 : Int)), (7, dI (x.1 : Int)), (32, dA), (33, dA), (34, dA), (35, dA), (36, dA), (37, dA), (38, dA), (39, dA), (40, dA), (41, dA), (42, dA), (43, dA), (44, dA), (45, dA), (46, dA), (47, dA), (48, dA), (49, dA), (50, dA), (51, dA), (52, dA), (53, dA), (54, dA), (55, dA), (56, dA), (57, dA), (58, dA)]) (fun x => (hQ b xs.length cap 22 Verts x.2.2 :: hp)) (fun x => xs.length - k - x.1) (fun x => 1 ≤ x.1 ∧ k + x.1 ≤ xs.length ∧ x.2.1 + 1 ≤ k + x.1 ∧ x.2.2.length = xs.length ∧ GoodL xs (k + x.1) (x.2.2.take x.2.1) ∧ x.2.2.drop (k + x.1 - 1) = xs.drop (k + x.1 - 1)) (1, k, xs) ?start ?frame0 ?objs0 ?round)
      case start => exact ⟨Nat.le_refl _, by omega, Nat.le_refl _, rfl, hg, rfl⟩
      case frame0 => ((try dsimp only [upds, z0, z1]); repeat (first | exact LeF.nil | refine LeF.co (k := ?_)))
      case objs0 => rfl
      case round =>
        rintro ⟨m, i, ys⟩ ⟨q1, q2, q3, q4, q5, q6⟩
        dsimp only [upds, z0, z1]
        simp only at q1 q2 q3 q4 q5 q6
        have hget : ∀ (j : Nat) (hj : k + m - 1 ≤ j) (hj' : j < xs.length), ys[j]'(by omega) = xs[j] := fun j hj hj' => by
          have e1 := congrArg (fun l => l[j - (k + m - 1)]?) q6
          simp only [List.getElem?_drop] at e1
          rw [show k + m - 1 + (j - (k + m - 1)) = j by omega, List.getElem?_eq_getElem (by omega), List.getElem?_eq_getElem hj'] at e1
          exact Option.some.inj e1
        ((repeat' (first | ((first | apply WL.opN | apply WD.opN); exact yF; dsimp only [setD, z0, z1]) | refine WL.nil ?_ | refine WD.nil ?_ | refine WC.seqK fun Kx hK => ?_ | (refine hK _ _ ?_; clear hK) | (refine Kont.skip ?_; clear hK) | refine WC.region ?_ | (apply WC.draw; kernel_rfl; kernel_rfl) |  (apply WL.storeQ (k := i) tySi; exact OpD.t rfl; exact OpD.t rfl; exact shape_K; omega; omega; dsimp only [setD, z0, z1]) |  (apply WL.clearQ (k := i) (n := xs.length - i) (x0 := ([] : List Vx)) Tryz.underlying37 Tryz.zeroValue22 rfl (fun _ _ => ArrK.nil' (by decide)); exact OpD.t rfl; omega; omega; omega; dsimp only [setD, z0, z1]) |  (apply WL.uptoC1 (l := i) elSi; exact OpD.t rfl; exact OpD.t rfl; rfl; omega; omega; omega; (simp; omega); dsimp only [setD, z0, z1]) | ((first | apply WL.opN | apply WD.opN); (focus ((first | (apply SY.ixQ (k := m) elSi; exact OpD.t rfl; exact OpD.t rfl; rfl; omega) | (apply SY.ixQ (k := m - 1) elSi; exact OpD.t rfl; exact OpD.t rfl; omega; omega) | (apply SY.ixQ (k := i) elSi; exact OpD.t rfl; exact OpD.t rfl; rfl; omega) | (apply SY.loadQ (k := k + m) tySi; exact OpD.t rfl; exact .head _; omega; omega) | (apply SY.loadQ (k := k + m - 1) tySi; exact OpD.t rfl; exact .head _; omega; omega) | (apply SY.dynF (x := ((ys[k + m], ys[k + m - 1]) : List Vx × List Vx)); (exact OpD.t rfl); (exact aD)) | (apply SY.fromQ (l := i) elSi; exact OpD.t rfl; exact OpD.t rfl; rfl; omega; omega) | exact yLss | exact yNot | exact yAdd | exact ySub | exact yLen | fail); all_goals infer_instance)); dsimp only [setD, z0, z1]) | (apply WC.condD; (exact oD); all_goals (intro h; try exact xD)) | (apply WC.condN; (exact oD); all_goals (intro h; try exact xD)) | refine WC.skip ?_ | refine WC.ret ?_ | refine WC.exit ?_ | refine WC.block ?_ | refine ThenD.n ?_ | refine ThenD.r ?_ | refine InBlockD.r ?_)); all_goals (first | ((repeat clear hK); (repeat clear Kx))))
        · have hkm : k + m < xs.length := by omega
          have e1 : ys[k + m]'(by omega) = xs[k + m] := hget _ (by omega) hkm
          have e2 : ys[k + m - 1]'(by omega) = xs[k + m - 1] := hget _ (by omega) (by omega)
          rw [e1, e2] at h
          rw [e1]
          (refine ⟨(m + 1, i + 1, ys.set i xs[k + m]), ?_, by first | omega | (simp only; omega), rfl, ?_⟩; rotate_left; ((try dsimp only [upds, z0, z1]); repeat (first | exact LeF.nil | refine LeF.co (k := ?_))); (try dsimp only))
          refine ⟨by omega, by omega, by omega, by simpa using q4, ?_, ?_⟩
          · have := goodL_push hs q5 (by omega) hkm h
            rw [Nat.add_assoc] at this
            have e3 : (ys.set i xs[k + m]).take (i + 1) = ys.take i ++ [xs[k + m]] := by
              rw [take_snoc' (by simp; omega), List.take_set_of_le (by omega)]
              simp
            rw [e3]; exact this
          · rw [show k + (m + 1) - 1 = (k + m - 1) + 1 by omega]
            have e4 : (ys.set i xs[k + m]).drop (k + m - 1 + 1) = ys.drop (k + m - 1 + 1) := by rw [List.drop_set_of_lt (by omega)]
            rw [e4]
            have := congrArg (List.drop 1) q6
            simpa [List.drop_drop] using this
        · have hkm : k + m < xs.length := by omega
          have e1 : ys[k + m]'(by omega) = xs[k + m] := hget _ (by omega) hkm
          have e2 : ys[k + m - 1]'(by omega) = xs[k + m - 1] := hget _ (by omega) (by omega)
          rw [e1, e2] at h
          (refine ⟨(m + 1, i, ys), ?_, by first | omega | (simp only; omega), rfl, ?_⟩; rotate_left; ((try dsimp only [upds, z0, z1]); repeat (first | exact LeF.nil | refine LeF.co (k := ?_))); (try dsimp only))
          refine ⟨by omega, by omega, by omega, q4, ?_, ?_⟩
          · have := goodL_skip q5 (by omega) hkm h
            rw [Nat.add_assoc] at this
            exact this
          · have := congrArg (List.drop 1) q6
            rw [List.drop_drop, List.drop_drop] at this
            rw [show k + (m + 1) - 1 = k + m - 1 + 1 by omega]
            exact this
        · have e1 : (ys.take i ++ List.replicate (xs.length - i) ([] : List Vx)).take i = ys.take i := by
            rw [List.take_left' (by simp; omega)]
          rw [e1]
          exact ⟨trivial, _, [_], rfl, rfl, _, _, goodL_end q5 (by omega), rfl, rfl⟩
    · (refine ⟨k + 1, ?_, by first | omega | (simp only; omega), rfl, ?_⟩; rotate_left; ((try dsimp only [upds, z0, z1]); repeat (first | exact LeF.nil | refine LeF.co (k := ?_))); (try dsimp only))
      refine ⟨by omega, by omega, ?_⟩
      rw [take_snoc' (by omega)]
      exact goodL_push hs h3 h1 (by omega) h
    · have e1 : xs.take k = xs := List.take_of_length_le (by omega)
      rw [e1] at h3
      exact ⟨trivial, _, [_], rfl, rfl, _, xs, goodL_end h3 (by omega), rfl, rfl⟩
end Go.Proofs.YtgppfikidagfpaaGreatDoor
namespace Go.Proofs.YtgppfikidagfpaaGreatDoor
open Go.RowKit
set_option linter.unusedSimpArgs false

set_option maxHeartbeats 2000000
set_option maxRecDepth 100000
theorem mapT_inc : MapT Tryz.prog 160 52 23 (.slice none 0 0) := ⟨Tryz.underlying160, fun w => by kernel_rfl⟩
abbrev IncM := List (Vx × Value × List Int)
abbrev hI (b : Nat) (M : IncM) : HObj := hM b kvV (fun p : Value × List Int => p.1) M
def rowsI (M : IncM) : List HObj := M.map fun p => hRow p.2.1 3 RI p.2.2
def contI (M : IncM) : List (Vx × List Int) := M.map fun p => (p.1, p.2.2)
theorem contI_keys (M : IncM) : (contI M).map (·.1) = M.map (·.1) := by unfold contI; rw [List.map_map]; rfl
theorem perm_set {α : Type} (a : α) : ∀ (l : List α) (q : Nat), q < l.length → (a :: l.eraseIdx q).Perm (l.set q a)
  | [], q, h => by simp at h
  | x :: l, 0, _ => by simp
  | x :: l, q + 1, h => by
    simp only [List.eraseIdx_cons_succ, List.set_cons_succ]
    exact (List.Perm.swap _ _ _).trans (List.Perm.cons _ (perm_set a l q (by simpa using h)))
theorem perm_at {α : Type} (l : List α) (q : Nat) (h : q < l.length) : (l[q] :: l.eraseIdx q).Perm l := by
  have := perm_set l[q] l q h
  rwa [List.set_getElem_self] at this
theorem map_set_key {α β : Type} (M : List (α × β)) (q : Nat) (h : q < M.length) (u : β) : (M.set q (M[q].1, u)).map (·.1) = M.map (·.1) := by
  rw [List.map_set]
  have : (M.map (·.1))[q]'(by simpa using h) = M[q].1 := by simp
  rw [← this, List.set_getElem_self]
theorem contI_set {M : IncM} (hn : (M.map (·.1)).Nodup) {q : Nat} (h : q < M.length) (v' : Value) (i : Int) : contI (M.set q (M[q].1, (v', M[q].2.2 ++ [i]))) = addI (contI M) M[q].1 i := by
  have hl : q < (contI M).length := by simpa [contI] using h
  have e1 : (contI M)[q] = (M[q].1, M[q].2.2) := by simp [contI]
  have hn' : ((contI M).map (·.1)).Nodup := by rw [contI_keys]; exact hn
  have h2 := lookM_some hn' hl
  have h3 := putM_set hn' (v := M[q].2.2 ++ [i]) hl
  rw [e1] at h2 h3
  unfold addI
  rw [h2]
  show _ = putM (contI M) M[q].1 (M[q].2.2 ++ [i])
  rw [h3]
  unfold contI
  rw [List.map_set]
theorem contI_new {M : IncM} {v : Vx} (hne : ∀ p ∈ M, p.1 ≠ v) (v' : Value) (i : Int) : contI (M ++ [(v, (v', [i]))]) = addI (contI M) v i := by
  have hne' : ∀ p ∈ contI M, p.1 ≠ v := fun p hp => by
    obtain ⟨q, hq, rfl⟩ := List.mem_map.1 hp
    exact hne q hq
  unfold addI
  rw [lookM_none hne', putM_new hne']
  simp [contI]
theorem rowsI_set (M : IncM) (q : Nat) (h : q < M.length) (p : Vx × Value × List Int) : (hRow p.2.1 3 RI p.2.2 :: (rowsI M).eraseIdx q).Perm (rowsI (M.set q p)) := by
  have := perm_set (hRow p.2.1 3 RI p.2.2) (rowsI M) q (by simpa [rowsI] using h)
  have e : rowsI (M.set q p) = (rowsI M).set q (hRow p.2.1 3 RI p.2.2) := by unfold rowsI; rw [List.map_set]
  rw [e]; exact this
theorem rowsI_snoc (M : IncM) (p : Vx × Value × List Int) : (hRow p.2.1 3 RI p.2.2 :: rowsI M).Perm (rowsI (M ++ [p])) := by
  unfold rowsI
  rw [List.map_append]
  exact (List.perm_append_singleton _ _).symm
theorem incidence_p (l : Cx) (hl : l.length ≤ 1000000) (hs : ∀ s ∈ l, ∀ v ∈ s, okV v) (h8 : ∀ s ∈ l, s.length ≤ 1000) : Fn Tryz.prog 134 [dS Simps l] (dS (MapR kvV Ints) (incC l)) := by
  (refine Fn.intro1 Tryz.func134 rfl rfl ?_; simp only [Tryz.ntmps134, List.length_cons, List.length_nil, Nat.reduceAdd, Nat.reduceSub, List.replicate_succ, List.replicate_zero, List.cons_append, List.nil_append])
  (repeat' (first | (apply WL.opN; exact yF; dsimp only [setD, z0, z1]) | refine WL.nil ?_ | refine WC.seqK fun Kx hK => ?_ | (refine hK _ _ ?_; clear hK) | refine WC.region ?_ |  (refine WL.makeMap kvV (fun p : Value × List Int => p.1) fun b => ?_; dsimp only [setD, z0, z1]) | (apply WL.opN; (focus ((first | exact yLen | fail); all_goals infer_instance)); dsimp only [setD, z0, z1]) | refine WC.block ?_))
  (refine WC.loopU (X := Nat × IncM) (fun x => [(11, dI (x.1 : Int)), (4, dA), (5, dA), (7, dA), (12, dA), (13, dA), (14, dA), (15, dA), (16, dA), (17, dA), (18, dA), (19, dA), (20, dA), (21, dA), (22, dA), (23, dA), (24, dA), (25, dA), (26, dA), (27, dA), (28, dA), (29, dA), (30, dA), (31, dA)]) (fun x => hI b x.2 :: rowsI x.2) (fun x => l.length - x.1) (fun x => x.1 ≤ l.length ∧ (x.2.map (·.1)).Nodup ∧ (∀ p ∈ x.2, okV p.1) ∧ (∀ p ∈ x.2, p.2.2.length ≤ 2000 * x.1) ∧ contI x.2 = incC (l.take x.1)) (0, []) ?start ?frame0 ?objs0 ?round)
  case start => exact ⟨Nat.zero_le _, by simp, by simp, by simp, rfl⟩
  case frame0 => ((try dsimp only [upds, z0, z1]); repeat (first | exact LeF.nil | refine LeF.co (k := ?_)))
  case objs0 => rfl
  case round =>
    rintro ⟨i, M⟩ ⟨h1, h2, h3, h4, h5⟩
    simp only at h1 h2 h3 h4 h5
    dsimp only [upds, z0, z1]
    ((repeat' (first | (apply WL.opN; exact yF; dsimp only [setD, z0, z1]) | refine WL.nil ?_ | refine WC.seqK fun Kx hK => ?_ | (refine hK _ _ ?_; clear hK) | (refine Kont.skip ?_; clear hK) | refine WC.region ?_ | (apply WL.opN; (focus ((first | exact yLss | exact yLen | exact yIndexaddr | fail); all_goals infer_instance)); dsimp only [setD, z0, z1]) | (apply WC.condD; (exact oD); all_goals (intro h; try exact xD)) | refine WC.skip ?_ | refine WC.ret ?_ | refine WC.exit ?_ | refine WC.block ?_)); all_goals (first | refine WC.id ?_ | ((repeat clear hK); (repeat clear Kx))))
    · have hm := List.getElem_mem (show i < l.length by omega)
      have h8m := h8 _ hm
      (refine WC.loopU (X := Nat × IncM) (fun x => [(18, dI (x.1 : Int)), (7, dA), (19, dA), (20, dA), (21, dA), (22, dA), (23, dA), (24, dA), (25, dA), (26, dA), (27, dA), (28, dA), (29, dA), (30, dA)]) (fun x => hI b x.2 :: rowsI x.2) (fun x => l[i].length - x.1) (fun x => x.1 ≤ l[i].length ∧ (x.2.map (·.1)).Nodup ∧ (∀ p ∈ x.2, okV p.1) ∧ (∀ p ∈ x.2, p.2.2.length ≤ 2000 * i + x.1) ∧ contI x.2 = incS (incC (l.take i)) (l[i].take x.1) (i : Int)) (0, M) ?start ?frame0 ?objs0 ?round)
      case start => exact ⟨Nat.zero_le _, h2, h3, h4, h5⟩
      case frame0 => ((try dsimp only [upds, z0, z1]); repeat (first | exact LeF.nil | refine LeF.co (k := ?_)))
      case objs0 => rfl
      case round =>
        rintro ⟨j, M⟩ ⟨g1, g2, g3, g4, g5⟩
        simp only at g1 g2 g3 g4 g5
        dsimp only [upds, z0, z1]
        ((repeat' (first | (apply WL.opN; exact yF; dsimp only [setD, z0, z1]) | refine WL.nil ?_ | refine WC.seqK fun Kx hK => ?_ | (refine hK _ _ ?_; clear hK) | (refine Kont.skip ?_; clear hK) | refine WC.region ?_ | (apply WL.alloc; (first | exact tzV | exact tzC); (first | exact shape_X rfl | exact shape_XV | exact shape_C0 rfl); (intro _; dsimp only [setD, z0, z1])) | (apply WL.storeF; (exact tD); rfl; (exact oD); (exact hD); dsimp only [setD, z0, z1]) | (apply WL.opN; (focus ((first | exact yLss | exact yAdd | exact yIndexaddr | exact yBuildslice | fail); all_goals infer_instance)); dsimp only [setD, z0, z1]) | (apply WC.condD; (exact oD); all_goals (intro h; try exact xD)) | refine WC.skip ?_ | refine WC.exit ?_ | refine WC.block ?_ | refine ThenD.n ?_)); all_goals (first | refine WL.id ?_ | ((repeat clear hK); (repeat clear Kx))))
        · have hjl : j < l[i].length := by omega
          refine WL.entM (zv := ((.slice none 0 0, []) : Value × List Int)) rfl mapT_inc keyT_V (OpD.t rfl) (OpD.t rfl) ⟨fun _ _ _ h => h⟩ (hs _ hm _ (List.getElem_mem hjl)) g3 (fun q hq hqv => ?_) (fun hne => ?_)
          · have hq' : q < (rowsI M).length := by unfold rowsI; simpa using hq
            have hrow : (rowsI M)[q] = hRow M[q].2.1 3 RI M[q].2.2 := by simp [rowsI]
            have hlen := g4 _ (List.getElem_mem hq)
            refine WL.perm (((List.Perm.cons _ (perm_at _ q hq').symm)).trans (List.Perm.swap _ _ _)) ?_
            rw [hrow]
            dsimp only [setD, z0, z1]
            (repeat' (first | ((first | apply WL.appK | apply WL.app1); (exact eD); exact OpD.t rfl; (exact oD); decide; (exact lD); (intro _; dsimp only [setD, z0, z1]); all_goals (try infer_instance)) | (apply WL.opN; (focus ((first | exact yExtract | fail); all_goals infer_instance)); dsimp only [setD, z0, z1])))
            rename_i v'
            refine WL.perm (List.Perm.swap _ _ _) ?_
            refine WL.entS (u := (v', M[q].2.2 ++ [(i : Int)])) (OpD.t rfl) (OpD.t rfl) (OpD.t rfl) ⟨fun _ _ _ h => h⟩ hq ?_
            refine WL.perm (List.Perm.cons _ (rowsI_set M q hq (M[q].1, (v', M[q].2.2 ++ [(i : Int)])))) ?_
            dsimp only [setD]
            ((repeat' (first | (apply WL.opN; exact yF; dsimp only [setD, z0, z1]) | refine WL.nil ?_ | (refine hK _ _ ?_; clear hK) | refine WC.region ?_ | (apply WL.opN; (focus ((first | exact yAdd | fail); all_goals infer_instance)); dsimp only [setD, z0, z1]) | refine ThenD.n ?_)); all_goals (first | ((repeat clear hK); (repeat clear Kx))))
            (refine ⟨(j + 1, M.set q (M[q].1, (v', M[q].2.2 ++ [(i : Int)]))), ?_, by first | omega | (simp only; omega), rfl, ?_⟩; rotate_left; ((try dsimp only [upds, z0, z1]); repeat (first | exact LeF.nil | refine LeF.co (k := ?_))); (try dsimp only))
            refine ⟨by omega, ?_, ?_, ?_, ?_⟩
            · rw [map_set_key]; exact g2
            · intro p hp
              rcases List.mem_or_eq_of_mem_set hp with hp | rfl
              · exact g3 p hp
              · exact (show okV M[q].1 from g3 _ (List.getElem_mem hq))
            · intro p hp
              rcases List.mem_or_eq_of_mem_set hp with hp | rfl
              · have := g4 p hp; omega
              · simp only [List.length_append, List.length_cons, List.length_nil]; omega
            · rw [contI_set g2 hq, g5, hqv, ← incS_snoc]
          · refine WL.nilRow 3 RI ?_
            dsimp only [setD, z0, z1]
            (repeat' (first | ((first | apply WL.appK | apply WL.app1); (exact eD); exact OpD.t rfl; (exact oD); decide; (exact lD); (intro _; dsimp only [setD, z0, z1]); all_goals (try infer_instance)) | (apply WL.opN; (focus ((first | exact yExtract | fail); all_goals infer_instance)); dsimp only [setD, z0, z1])))
            rename_i v'
            refine WL.perm (List.Perm.swap _ _ _) ?_
            have hlen : M.length < (M ++ [((l[i][j], ((.slice none 0 0, []) : Value × List Int)))]).length := by simp
            refine WL.entS (j := M.length) (u := (v', [(i : Int)])) (OpD.t rfl) (OpD.t rfl) (OpD.t rfl) ⟨fun _ _ _ h => h⟩ hlen ?_
            have eset : (M ++ [((l[i][j], ((.slice none 0 0, []) : Value × List Int)))]).set M.length ((M ++ [((l[i][j], ((.slice none 0 0, []) : Value × List Int)))])[M.length].1, (v', [(i : Int)])) = M ++ [(l[i][j], (v', [(i : Int)]))] := by simp
            rw [eset]
            refine WL.perm (List.Perm.cons _ (rowsI_snoc M (l[i][j], (v', [(i : Int)])))) ?_
            dsimp only [setD]
            ((repeat' (first | (apply WL.opN; exact yF; dsimp only [setD, z0, z1]) | refine WL.nil ?_ | (refine hK _ _ ?_; clear hK) | refine WC.region ?_ | (apply WL.opN; (focus ((first | exact yAdd | fail); all_goals infer_instance)); dsimp only [setD, z0, z1]) | refine ThenD.n ?_)); all_goals (first | ((repeat clear hK); (repeat clear Kx))))
            (refine ⟨(j + 1, M ++ [(l[i][j], (v', [(i : Int)]))]), ?_, by first | omega | (simp only; omega), rfl, ?_⟩; rotate_left; ((try dsimp only [upds, z0, z1]); repeat (first | exact LeF.nil | refine LeF.co (k := ?_))); (try dsimp only))
            refine ⟨by omega, ?_, ?_, ?_, ?_⟩
            · rw [List.map_append, List.nodup_append]
              refine ⟨g2, by simp, fun a ha c hc => ?_⟩
              have : c = l[i][j] := by simpa using hc
              subst this
              obtain ⟨p, hp, rfl⟩ := List.mem_map.1 ha
              exact hne p hp
            · intro p hp
              rcases List.mem_append.1 hp with hp | hp
              · exact g3 p hp
              · rw [List.mem_singleton.1 hp]; exact hs _ hm _ (List.getElem_mem hjl)
            · intro p hp
              rcases List.mem_append.1 hp with hp | hp
              · have := g4 p hp; omega
              · rw [List.mem_singleton.1 hp]; simp only [List.length_cons, List.length_nil]; omega
            · rw [contI_new hne, g5, ← incS_snoc]
        · (refine ⟨(i + 1, M), ?_, by first | omega | (simp only; omega), rfl, ?_⟩; rotate_left; ((try dsimp only [upds, z0, z1]); repeat (first | exact LeF.nil | refine LeF.co (k := ?_))); (try dsimp only))
          refine ⟨by omega, g2, g3, fun p hp => by have := g4 p hp; omega, ?_⟩
          rw [List.take_of_length_le (show l[i].length ≤ j by omega)] at g5
          show contI M = _
          rw [g5, ← incC_snoc (by omega)]
    · rw [List.take_of_length_le (by omega)] at h5
      rw [← h5]
      exact ⟨trivial, _, rfl, FinD.map (.head _) fun p hp => .tail _ (List.mem_map_of_mem (f := fun p : Vx × Value × List Int => hRow p.2.1 3 RI p.2.2) hp)⟩
end Go.Proofs.YtgppfikidagfpaaGreatDoor
namespace Go.Proofs.YtgppfikidagfpaaGreatDoor
open Go.RowKit
section
variable {P : Program} {ops : Array Oper} {hp : List HObj} {o : Oper} {fr : List Dat} {d : Dat} {Q : Post} {rest : List Oper}
variable {dst : Option Tmp} {ty : TypeId} {ps : String} {af : Array Edge} {g : Option (Nat × Bool)} {e : TypeId} {b : Nat} {T1 T2 : TypeId} {v v' : Value} {α : Type} {R : Rel α} {_gR : Good R} {xs : List α}
abbrev hC1 (b : Nat) (T : TypeId) (v : Value) : HObj := hCell b T 1 true (dX (.agg #[v]))
theorem cellC1 {I : Nat → Prop} {w : World} (h : (hC1 b T2 v).ok I w) : w.heap[b]? = some (.cells #[v] T2) ∧ v.oneCell' = true := by
  obtain ⟨cs, u, h1, h2, h0, h3, h4, h5⟩ := h
  simp only [if_true] at h4
  cases (h5 : u = _)
  injection h4 with h4
  have hcs : cs = [v] := List.toArray_inj h4.symm
  subst hcs
  exact ⟨h1, h3 v (by simp)⟩
theorem SY.loadC1 {x : Operand} (T' : TyI P T1 1 false) (hx : OpD fr x (dX (.pointer (some ⟨b, 0, none⟩)))) (hm : hC1 b T2 v ∈ hp) : SY P ops hp { dst := dst, op := .load T1 x, type := ty, pos := ps, after := af, guard := g } fr (dX v) :=
  SY.valE fun {P0 B w0 w a} hh ho => by
    have h1 : a.eval x = .pointer (some ⟨b, 0, none⟩) := hx.get (by simp [Op.operands]) ho
    obtain ⟨c1, c2⟩ := cellC1 (hh.ok _ hm)
    have hc : Cells (fun _ => True) w b 0 1 false v := by
      refine ⟨trivial, [v], rfl, by decide, by simp [c2], fun i c hc => ?_, rfl⟩
      have hi : i = 0 := by
        have := (List.getElem?_eq_some_iff.1 hc).1
        simp at this; exact this
      subst hi
      cases hc
      simp [World.cell?, c1]
    refine ⟨v, w, ?_, Ext.refl _, rfl⟩
    unfold execOp
    simp only [h1, Sem.run_bind, run_loadC T' hc, Result.andThen_ok, Sem.run_pure]
theorem WL.storeC1 {t : Nat} {x : Operand} (T' : TyI P T1 1 false) (hp0 : OpD fr (.tmp t) (dX (.pointer (some ⟨b, 0, none⟩)))) (hx : OpD fr x (dX v')) (hm : hRow v' e R xs ∈ hp)
    (h : WL P ops Q rest (setD fr dst (dX undef)) (hC1 b T2 v' :: hp)) : WL P ops Q ({ dst := dst, op := .store T1 (.tmp t) x, type := ty, pos := ps, after := af, guard := none } :: rest) fr (hC1 b T2 v :: hp) := by
  refine WL.of fun P0 B w0 w a hh hf => ?_
  obtain ⟨c1, c2⟩ := cellC1 (hh.ok (hC1 b T2 v) (by simp))
  have h1 : a.eval x = v' := hx.ev hf
  have h2 : a.eval (.tmp t) = .pointer (some ⟨b, 0, none⟩) := hp0.ev hf
  have hone : v'.oneCell' = true := by
    obtain ⟨us, _, ⟨_, hv⟩, _⟩ := hh.ok (hRow v' e R xs) (List.mem_cons_of_mem _ hm)
    rcases hv with ⟨hv, _⟩ | ⟨g, cap, cur, hv, _⟩ <;> (rw [hv]; rfl)
  have hr := run_storeC (u := v') (cs := [v]) (cs' := [v']) T'.size c1 rfl rfl (by simp [hone]) (by rw [cells_one hone])
  have hrun : (execOp a.eval { dst := dst, op := .store T1 (.tmp t) x, type := ty, pos := ps, after := af, guard := none }).run P w = .ok .skip (w.setRow b #[v']) := by
    unfold execOp
    simp only [h1, h2, Sem.run_bind, hr, Result.andThen_ok, Sem.run_pure]
  refine wpList_plain rfl fun K hK => ?_
  unfold Oper.wp
  rw [hrun]
  have hgr : w.grownBy (w.setRow b #[v']) (hC1 b T2 v).blk := grown_setRow
  have hok : (hC1 b T2 v').ok (fun k => Imm P0 B (hC1 b T2 v :: hp) k ∧ k < w.heap.size) (w.setRow b #[v']) :=
    ⟨[v'], .agg #[v'], setRow_heap w b _ _ _ _ c1, rfl, by decide, by simp [hone], rfl, rfl⟩
  exact hK _ _ (h.on (hh.write hgr (.inl rfl) hok) (Fr.put (hf.mono fun _ _ hd => Hp.written (o' := hC1 b T2 v') hgr (.inl rfl) hd) (d := dX undef) rfl))
theorem WL.knowRow {c0 : Prop} (hm : hRow v e R xs ∈ hp) (hc : (∃ a c, v = .slice a xs.length c) → c0) (h : c0 → WL P ops Q rest fr hp) : WL P ops Q rest fr hp := WL.of fun _ _ _ _ _ hh hf => by
  refine (h (hc ?_)).on hh hf
  obtain ⟨us, _, ⟨_, hv⟩, _⟩ := hh.ok (hRow v e R xs) hm
  rcases hv with ⟨hv, h0⟩ | ⟨g, cap, cur, hv, _⟩
  · exact ⟨_, _, by rw [hv, h0]⟩
  · exact ⟨_, _, hv⟩
theorem set_slot {I : Nat → Prop} {w : World} {a : Act} (hf : Fr I w a fr) {s : Tmp} (hs : fr[s]? = some (dX v)) (hd : d.rd I w v) : Fr I w a (fr.set s d) := by
  refine ⟨hf.defers, by rw [hf.size, List.length_set], fun t' d' hd' => ?_⟩
  by_cases htt : s = t'
  · subst htt
    rw [List.getElem?_set] at hd'
    simp only [if_true] at hd'
    split at hd'
    · cases hd'
      have hv : a.tmps.getD s undef = v := hf.rd s _ hs
      rw [hv]; exact hd
    · cases hd'
  · rw [List.getElem?_set_ne htt] at hd'
    exact hf.rd t' d' hd'
theorem WL.keep2 {s t : Tmp} (hs : fr[s]? = some (dX v)) (ht : (fr.set s (dS (Arr R) xs))[t]? = some (dX v)) (h : WL P ops Q rest ((fr.set s (dS (Arr R) xs)).set t (dS (Arr R) xs)) hp) : WL P ops Q rest fr (hRow v e R xs :: hp) := WL.of fun _ _ _ _ _ hh hf =>
  h.on hh.drop (set_slot (keep_slot hf hs (d := dS (Arr R) xs) (Own.keep hh)) ht (Own.keep hh))
end
end Go.Proofs.YtgppfikidagfpaaGreatDoor
