/- Part 26: walks by contracts, and plain laws. -/
import Derived.Test.YtgppfikidagfpaaGreatDoorVf25
set_option linter.unusedVariables false
set_option linter.unusedSimpArgs false
set_option linter.unusedSectionVars false
namespace Go.Proofs.YtgppfikidagfpaaGreatDoor
open Go.RowKit
set_option linter.unusedSimpArgs false

set_option maxHeartbeats 2000000
set_option maxRecDepth 100000
theorem cloneV_p (xs : List Vx) (hl : xs.length ≤ 1000) : Fn Tryz.prog 122 [dS Verts xs] (dS Verts xs) := by
  (refine Fn.intro1 Tryz.func122 rfl rfl ?_; simp only [Tryz.ntmps122, List.length_cons, List.length_nil, Nat.reduceAdd, Nat.reduceSub, List.replicate_succ, List.replicate_zero, List.cons_append, List.nil_append])
  ((repeat' (first |  (refine WL.openE 4 rfl fun b hb => ?_; dsimp only [z0, z1]) | (apply WL.opN; exact yF; dsimp only [setD, z0, z1]) | refine WL.nil ?_ | refine WC.seqK fun Kx hK => ?_ | (refine hK _ _ ?_; clear hK) | refine WC.region ?_ |  (apply WL.build0K elV RV (by decide); (intro _; dsimp only [setD, z0, z1]); all_goals (try infer_instance)) | ((first | apply WL.appK | apply WL.app1); (exact eD); exact OpD.t rfl; (exact oD); decide; (exact lD); (intro _; dsimp only [setD, z0, z1]); all_goals (try infer_instance)) | (apply WL.opN; (focus ((first | (apply SY.eqNil; exact OpD.t rfl; (exact fun _ _ _ h => nil_K h); exact len_K; exact eqNilV) | fail); all_goals infer_instance)); dsimp only [setD, z0, z1]) | (apply WC.cond; (exact oD); all_goals (intro h; try exact xD)) | refine WC.skip ?_ | refine WC.ret ?_ | refine ThenD.r ?_)); all_goals (first | ((repeat clear hK); (repeat clear Kx))))
  · rw [hb h]; (refine ⟨trivial, _, rfl, ?_⟩; exact fD)
  · rw [List.nil_append]; (refine ⟨trivial, _, rfl, ?_⟩; exact fD)
theorem ok_vx {s : List Vx} (h : chkV s = 0) : ∀ v ∈ s, okV v := fun v hv => by
  have := rngV_iff.1 ((chkV_zero.1 h).2.2.1 v hv)
  unfold okV is64
  omega
theorem contI_nodup {l : Cx} : ∀ n, n ≤ l.length → ((incC (l.take n)).map (·.1)).Nodup ∧ ∀ v, v ∈ (incC (l.take n)).map (·.1) → ∃ s ∈ l, v ∈ s := by
  have put : ∀ (m : List (Vx × List Int)) (v : Vx) (i : Int), (m.map (·.1)).Nodup → ((addI m v i).map (·.1)).Nodup ∧ ∀ u, u ∈ (addI m v i).map (·.1) → u = v ∨ u ∈ m.map (·.1) := by
    intro m v i hm
    unfold addI putM
    split
    · rename_i h
      have e : (m.map fun p => if p.1 = v then (v, (lookM m v).getD [] ++ [i]) else p).map (·.1) = m.map (·.1) := by
        rw [List.map_map]
        refine List.map_congr_left fun p _ => ?_
        show (if p.1 = v then (v, (lookM m v).getD [] ++ [i]) else p).1 = p.1
        split
        · rename_i h; exact h.symm
        · rfl
      rw [e]
      exact ⟨hm, fun u hu => .inr hu⟩
    · rename_i h
      rw [List.map_append]
      refine ⟨?_, fun u hu => ?_⟩
      · rw [List.nodup_append]
        refine ⟨hm, by simp, fun a ha b hb => ?_⟩
        have : b = v := by simpa using hb
        subst this
        intro hab
        subst hab
        obtain ⟨p, hp, hpv⟩ := List.mem_map.1 ha
        apply h
        unfold lookM
        rw [Option.isSome_map]
        rw [List.find?_isSome]
        exact ⟨p, hp, by simpa using hpv⟩
      · rcases List.mem_append.1 hu with hu | hu
        · exact .inr hu
        · exact .inl (by simpa using hu)
  have all : ∀ (s : List Vx) (m : List (Vx × List Int)) (i : Int), (m.map (·.1)).Nodup → ((incS m s i).map (·.1)).Nodup ∧ ∀ u, u ∈ (incS m s i).map (·.1) → u ∈ s ∨ u ∈ m.map (·.1) := by
    intro s
    induction s with
    | nil => intro m i hm; exact ⟨hm, fun u hu => .inr hu⟩
    | cons v s ih =>
      intro m i hm
      obtain ⟨h1, h2⟩ := put m v i hm
      obtain ⟨h3, h4⟩ := ih (addI m v i) i h1
      refine ⟨h3, fun u hu => ?_⟩
      rcases h4 u hu with h | h
      · exact .inl (by simp [h])
      · rcases h2 u h with h | h
        · exact .inl (by simp [h])
        · exact .inr h
  intro n
  induction n with
  | zero => intro _; exact ⟨by simp [incC], fun v hv => by simp [incC] at hv⟩
  | succ n ih =>
    intro hn
    obtain ⟨h1, h2⟩ := ih (by omega)
    rw [incC_snoc (by omega)]
    obtain ⟨h3, h4⟩ := all l[n] (incC (l.take n)) (n : Int) h1
    refine ⟨h3, fun v hv => ?_⟩
    rcases h4 v hv with h | h
    · exact ⟨l[n], List.getElem_mem _, h⟩
    · exact h2 v h
theorem incC_nodup (l : Cx) : ((incC l).map (·.1)).Nodup := by
  have := (contI_nodup (l := l) l.length (Nat.le_refl _)).1
  rwa [List.take_length] at this
theorem incC_ok {l : Cx} (h : ∀ s ∈ l, chkV s = 0) : ∀ p ∈ incC l, okV p.1 := fun p hp => by
  have := (contI_nodup (l := l) l.length (Nat.le_refl _)).2 p.1
  rw [List.take_length] at this
  obtain ⟨s, hs, hv⟩ := this (List.mem_map_of_mem hp)
  exact ok_vx (h s hs) _ hv
theorem isKV {x : Vx} : IsV (dS RV x) (kvV x) := ⟨fun _ _ _ h => h⟩
theorem pos_chk {s : List Vx} (h : chkV s = 0) : 0 < s.length := by have := chkV_zero.1 h; omega
theorem len_chk {s : List Vx} (h : chkV s = 0) : s.length ≤ 8 := by have := chkV_zero.1 h; omega
set_option maxHeartbeats 4000000 in
theorem complexOf_p (l : Cx) (hg : ∀ s ∈ l, chkV s = 0) (hl : l.length ≤ 1000000) : Fn Tryz.prog 82 [dS Simps l] (dS Cpx (maxC l)) := by
  (refine Fn.introC1 tyC Tryz.func82 rfl rfl ?_; simp only [Tryz.ntmps82, List.length_cons, List.length_nil, Nat.reduceAdd, Nat.reduceSub, List.replicate_succ, List.replicate_zero, List.cons_append, List.nil_append])
  (repeat' (first | ((first | apply WL.opN | apply WD.opN); exact yF; dsimp only [setD, z0, z1]) | refine WL.nil ?_ | refine WC.seqK fun Kx hK => ?_ | (refine hK _ _ ?_; clear hK) | refine WC.region ?_ |  (refine WL.alloc tzC (shape_C0 rfl) fun b2 => ?_; dsimp only [setD, z0, z1]) |  (refine WL.callC (hp1 := []) (caps := []) (clone_s l hl) Tryz.call131 OpD.f (by (exact aD)) ?_; rintro d' hp2 ⟨v, rfl, rfl⟩; dsimp only [setD, z0, z1, List.cons_append, List.nil_append]) |  (apply WL.sortS; exact OpD.t rfl; omega; intro ys hperm hsort; dsimp only [setD, z0, z1])))
  refine WL.callC (hp1 := [_]) (caps := []) (compact_s ys v hsort (by rw [hperm.length_eq]; omega)) Tryz.call133 OpD.f (ArgsD.cons (OpD.t rfl) (ArgsD.cons ⟨le_fun Tryz.call26 fun x : List Vx × List Vx => eqV_p x.1 x.2⟩ ArgsD.nil)) ?_
  rintro d' hp2 ⟨v2, zs, hzs, rfl, rfl⟩
  dsimp only [setD, z0, z1, List.cons_append, List.nil_append]
  (repeat' (first | ((first | apply WL.opN | apply WD.opN); exact yF; dsimp only [setD, z0, z1]) | refine WL.nil ?_ | refine WC.seqK fun Kx hK => ?_ | (refine hK _ _ ?_; clear hK) | refine WC.region ?_))
  refine WL.keep2 (s := 0) (t := 13) rfl rfl ?_
  dsimp only [z0, z1]
  have hzg : ∀ s ∈ zs, chkV s = 0 := fun s hs => hg s (hperm.mem_iff.1 ((hzs.2 s).1 hs))
  have hzl : zs.length ≤ 1000000 := by
    have h1 := hperm.length_eq
    have h2 : zs.length ≤ ys.length := List.Nodup.length_le_of_subset hzs.1.nodup fun x hx => (hzs.2 x).1 hx
    omega
  (repeat' (first | ((first | apply WL.opN | apply WD.opN); exact yF; dsimp only [setD, z0, z1]) | refine WL.nil ?_ | refine WC.seqK fun Kx hK => ?_ | (refine hK _ _ ?_; clear hK) | refine WC.region ?_ |  (refine WL.alloc tzC (shape_C0 rfl) fun b4 => ?_; dsimp only [setD, z0, z1]) | ((first | apply WL.opN | apply WD.opN); (focus ((first | (apply SY.call (incidence_p zs hzl (fun s hs => ok_vx (hzg s hs)) (fun s hs => Nat.le_trans (len_chk (hzg s hs)) (by decide))) Tryz.call134; (exact aD)) | exact yLen | fail); all_goals infer_instance)); dsimp only [setD, z0, z1]) | refine WC.block ?_))
  have hgood : zs.filter (fun s => !coveredC zs s) = maxC l := maxC_eq (fun s hs => pos_chk (hg s hs)) hzs.1 fun u => (hzs.2 u).trans hperm.mem_iff
  refine WC.nilRow 22 Verts ?_
  (refine WC.loopU (X := Nat × Value × Cx) (fun x => [(17, dI (x.1 : Int)), (6, dA), (18, dA), (19, dA), (20, dA), (21, dA), (22, dA), (23, dA), (24, dA), (25, dA), (26, dA), (27, dA), (28, dA), (29, dA), (30, dA), (31, dA), (32, dA), (33, dA), (34, dA), (35, dA), (36, dA), (37, dA)]) (fun x => (hRow x.2.1 22 Verts x.2.2 :: hC1 b4 39 x.2.1 :: hCell b2 39 1 true (dX (.agg #[.slice none 0 0])) :: [])) (fun x => zs.length - x.1) (fun x => x.1 ≤ zs.length ∧ x.2.2 = (zs.take x.1).filter (fun s => !coveredC zs s)) (0, .slice none 0 0, []) ?start ?frame0 ?objs0 ?round)
  case start => exact ⟨Nat.zero_le _, by simp⟩
  case frame0 => ((try dsimp only [upds, z0, z1]); repeat (first | exact LeF.nil | refine LeF.co (k := ?_)))
  case objs0 => rfl
  case round =>
    rintro ⟨k, v, o⟩ ⟨h1, h2⟩
    simp only at h1 h2
    have hol : o.length ≤ 1000000 := by
      have h3 := List.length_filter_le (fun s => !coveredC zs s) (zs.take k)
      rw [List.length_take, ← h2] at h3
      omega
    dsimp only [upds, z0, z1]
    ((repeat' (first |  (apply WC.drawTail 5; kernel_rfl; kernel_rfl; simp only [List.take_succ_cons, List.take_zero, List.drop_succ_cons, List.drop_zero]) | ((first | apply WL.opN | apply WD.opN); exact yF; dsimp only [setD, z0, z1]) | refine WL.nil ?_ | refine WD.nil ?_ | refine WC.seqK fun Kx hK => ?_ | (refine hK _ _ ?_; clear hK) | (refine Kont.skip ?_; clear hK) | refine WC.region ?_ |  (refine WL.perm (List.Perm.swap _ _ _) ?_; refine WL.storeC1 tySS (OpD.t rfl) (OpD.t rfl) (.head _) ?_; refine WL.perm (List.Perm.swap _ _ _) ?_; dsimp only [setD, z0, z1]) | ((first | apply WL.appK | apply WL.app1); (exact eD); exact OpD.t rfl; (exact oD); decide; (exact lD); (intro _; dsimp only [setD, z0, z1]); all_goals (try infer_instance)) | ((first | apply WL.opN | apply WD.opN); (focus ((first | (apply SY.ixKJ elV (OpD.t rfl) OpD.i 0 rfl; exact pos_chk (hzg _ (List.getElem_mem _))) | (refine SY.lookR (a0 := ([] : List Int)) mapT_inc keyT_V (OpD.t rfl) (OpD.t rfl) isKV (ok_vx (hzg _ (List.getElem_mem _)) _ (List.getElem_mem _)) (incC_ok hzg) (incC_nodup zs) (fun _ _ => Arr.nil')) | (apply SY.call (coveredP_p _ _ _ atM_bnd) Tryz.call135; (exact aD)) | (apply SY.fldX cpxT; exact OpD.t rfl) | (apply SY.loadC1 tySS; exact OpD.t rfl; exact .tail _ (.head _)) | (apply SY.call (cloneV_p _ (Nat.le_trans (len_chk (hzg _ (List.getElem_mem _))) (by decide))) Tryz.call122; (exact aD)) | exact yLss | exact yNot | exact yAdd | exact yIndexaddr | exact yBuildslice | fail); all_goals infer_instance)); dsimp only [setD, z0, z1]) | (apply WC.condD; (exact oD); all_goals (intro h; try exact xD)) | (apply WC.condNB; (exact oD); all_goals (intro h; try exact xD)) | refine WC.skip ?_ | refine WC.exit ?_ | refine WC.block ?_ | refine ThenD.n ?_)); all_goals (first | refine WL.id ?_ | ((repeat clear hK); (repeat clear Kx))))
    · rename_i h0 v'
      rw [anyCov hzg (hzg _ (List.getElem_mem (show k < zs.length by omega))) (List.getElem_mem _)] at h
      (refine ⟨(k + 1, v', o ++ [zs[k]]), ?_, by first | omega | (simp only; omega), rfl, ?_⟩; rotate_left; ((try dsimp only [upds, z0, z1]); repeat (first | exact LeF.nil | refine LeF.co (k := ?_))); (try dsimp only))
      refine ⟨by omega, ?_⟩
      show o ++ _ = _
      rw [filt_snoc (by omega), if_pos (by rw [h]; rfl), h2]
    · rw [anyCov hzg (hzg _ (List.getElem_mem (show k < zs.length by omega))) (List.getElem_mem _)] at h
      (refine ⟨(k + 1, v, o), ?_, by first | omega | (simp only; omega), rfl, ?_⟩; rotate_left; ((try dsimp only [upds, z0, z1]); repeat (first | exact LeF.nil | refine LeF.co (k := ?_))); (try dsimp only))
      refine ⟨by omega, ?_⟩
      show o = _
      rw [filt_snoc (by omega), if_neg (by rw [h]; decide), h2, List.append_nil]
    · rw [List.take_of_length_le (by omega), hgood] at h2
      subst h2
      refine WL.knowRow (.head _) _root_.id fun hv => ?_
      obtain ⟨ad, c, rfl⟩ := hv
      ((repeat' (first | refine WL.nil ?_ | (refine hK _ _ ?_; clear hK) |  (apply WL.storeF3 tyC; rfl; exact OpD.t rfl; exact shape_C0 rfl; dsimp only [setD, z0, z1]) | ((first | apply WL.opN | apply WD.opN); (focus ((first | (apply SY.loadH tyC; exact OpD.t rfl; exact .tail _ (.head _)) | fail); all_goals infer_instance)); dsimp only [setD, z0, z1]) | refine WC.ret ?_)); all_goals (first | ((repeat clear hK); (repeat clear Kx))))
      exact ⟨trivial, _, rfl, FinD.rowC (.head _)⟩
end Go.Proofs.YtgppfikidagfpaaGreatDoor
namespace Go.Proofs.YtgppfikidagfpaaGreatDoor
open Go.RowKit
set_option linter.unusedSimpArgs false

set_option maxHeartbeats 2000000
set_option maxRecDepth 100000
theorem any_take {l : Cx} {p : List Vx → Bool} {k : Nat} (h : k < l.length) : (l.take (k + 1)).any p = ((l.take k).any p || p l[k]) := by rw [take_snoc' h, List.any_append]; simp
set_option maxHeartbeats 4000000 in
theorem check_p (l : Cx) : Fn Tryz.prog 90 [dS Cpx l] (dI (chkC l)) := by
  (refine Fn.intro1 Tryz.func90 rfl rfl ?_; simp only [Tryz.ntmps90, List.length_cons, List.length_nil, Nat.reduceAdd, Nat.reduceSub, List.replicate_succ, List.replicate_zero, List.cons_append, List.nil_append])
  ((repeat' (first | ((first | apply WL.opN | apply WD.opN); exact yF; dsimp only [setD, z0, z1]) | refine WL.nil ?_ | refine WC.seqK fun Kx hK => ?_ | (refine hK _ _ ?_; clear hK) | refine WC.region ?_ | ((first | apply WL.opG | apply WD.op); (focus (first | exact wN | (apply SYG.yes; (exact wY); ((first | exact yGtr | exact yLen | exact yFieldaddr | exact yBox | fail); all_goals infer_instance)))); dsimp only [setD, z0, z1]) | (apply WC.condD; (exact oD); all_goals (intro h; try exact xD)) | refine WC.skip ?_ | refine WC.ret ?_ | refine WC.block ?_ | refine ThenD.r ?_)); all_goals (first | refine WC.id ?_ | ((repeat clear hK); (repeat clear Kx))))
  · (refine ⟨trivial, _, rfl, ?_⟩; refine FinD.i ?_)
    unfold chkC; rw [if_pos (by omega)]
  · have hs : chkC l = if chkO none l ≠ 0 then chkO none l else if twiceC l = true then 7 else 0 := by unfold chkC; rw [if_neg (by omega)]
    (refine WC.loopU (X := Nat) (fun k => [(16, dI (k : Int)), (2, dA), (3, dA), (4, dA), (5, dA), (17, dA), (18, dA), (19, dA), (20, dA), (21, dA), (22, dA), (23, dA), (24, dA), (25, dA), (26, dA), (27, dA), (28, dA), (29, dA), (30, dA), (31, dA), (32, dA), (33, dA), (34, dA), (35, dA), (36, dA), (37, dA), (38, dA), (39, dA)]) (fun k => []) (fun k => l.length - k) (fun k => k ≤ l.length ∧ chkO none l = chkO (l.take k).getLast? (l.drop k)) 0 ?start ?frame0 ?objs0 ?round)
    case start => exact ⟨Nat.zero_le _, rfl⟩
    case frame0 => ((try dsimp only [upds, z0, z1]); repeat (first | exact LeF.nil | refine LeF.co (k := ?_)))
    case objs0 => rfl
    case round =>
      rintro k ⟨h3, h4⟩
      dsimp only [upds, z0, z1]
      ((repeat' (first | ((first | apply WL.opN | apply WD.opN); exact yF; dsimp only [setD, z0, z1]) | refine WL.nil ?_ | refine WC.seqK fun Kx hK => ?_ | (refine hK _ _ ?_; clear hK) | (refine Kont.skip ?_; clear hK) | refine WC.region ?_ | ((first | apply WL.opG | apply WD.op); (focus (first | exact wN | (apply SYG.yes; (exact wY); ((first | (apply SY.call (cmpL_p _ _) Tryz.call121; (exact aD)) | (apply SY.call (chk_p _) Tryz.call81; (exact aD)) | (apply SY.ixJ elSi (OpD.t rfl) (OpD.t rfl) (k - 1); omega; omega) | exact yMove | exact yLss | exact yGtr | exact yGeq | exact yNeq | exact yAdd | exact ySub | exact yLoad | exact yIndexaddr | exact yFieldaddr | exact yPick | fail); all_goals infer_instance)))); dsimp only [setD, z0, z1]) | ((first | refine WL.caseP rfl rfl rfl (fun h => ?_) (fun h => ?_) | refine WL.caseN rfl rfl rfl (fun h => ?_) (fun h => ?_) | refine WL.caseB rfl rfl rfl (fun h => ?_) (fun h => ?_) | refine WD.caseP rfl rfl rfl (fun h => ?_) (fun h => ?_) | refine WD.caseN rfl rfl rfl (fun h => ?_) (fun h => ?_) | refine WD.caseB rfl rfl rfl (fun h => ?_) (fun h => ?_)) <;> (first | (exfalso; first | omega | contradiction) | (dsimp only [z0, z1]))) | (apply WC.condF; (exact oD); (with_reducible rfl)) | (apply WC.condD; (exact oD); all_goals (intro h; try exact xD)) | (apply WC.condN; (exact oD); all_goals (intro h; try exact xD)) | refine WC.skip ?_ | refine WC.ret ?_ | refine WC.exit ?_ | refine WC.block ?_ | refine ThenD.n ?_ | refine ThenD.r ?_ | refine InBlockD.r ?_)); all_goals (first | refine WL.id ?_ | ((repeat clear hK); (repeat clear Kx))))
      all_goals try (rw [chkO_drop l k (by omega)] at h4)
      · (refine ⟨trivial, _, rfl, ?_⟩; refine FinD.i ?_)
        rw [hs, h4, if_pos h, if_pos h]
      · (refine ⟨trivial, _, rfl, ?_⟩; refine FinD.i ?_)
        have h5 : ¬ chkV l[k] ≠ 0 := by omega
        rw [if_neg h5, lastC_take _ _ (by omega) (by omega), if_pos (by simpa using h)] at h4
        rw [hs, h4]; rfl
      · (refine ⟨k + 1, ?_, by first | omega | (simp only; omega), rfl, ?_⟩; rotate_left; ((try dsimp only [upds, z0, z1]); repeat (first | exact LeF.nil | refine LeF.co (k := ?_))); (try dsimp only))
        refine ⟨by omega, ?_⟩
        have h5 : ¬ chkV l[k] ≠ 0 := by omega
        rw [h4, if_neg h5, lastC_take _ _ (by omega) (by omega), if_neg (by simpa using h)]
      · (refine ⟨k + 1, ?_, by first | omega | (simp only; omega), rfl, ?_⟩; rotate_left; ((try dsimp only [upds, z0, z1]); repeat (first | exact LeF.nil | refine LeF.co (k := ?_))); (try dsimp only))
        refine ⟨by omega, ?_⟩
        have h5 : ¬ chkV l[k] ≠ 0 := by omega
        have h0 : (l.take k).getLast? = none := by
          have : k = 0 := by omega
          rw [this]; rfl
        rw [h4, if_neg h5, h0]
        rfl
      · rw [List.drop_of_length_le (by omega)] at h4
        have h4' : chkO none l = 0 := h4
        have hs' : chkC l = if twiceC l = true then 7 else 0 := by rw [hs, if_neg (by omega)]
        clear hs h4
        obtain ⟨ha, _, hg⟩ := chkO_asc l none h4'
        rw [twice_any ha hg] at hs'
        have hl1 : l.length ≤ 1000000 := by omega
        (repeat' (first | ((first | apply WL.opN | apply WD.opN); exact yF; dsimp only [setD, z0, z1]) | refine WL.nil ?_ | refine WC.seqK fun Kx hK => ?_ | (refine hK _ _ ?_; clear hK) | refine WC.region ?_ | ((first | apply WL.opG | apply WD.op); (focus (first | exact wN | (apply SYG.yes; (exact wY); ((first | (apply SY.call (incidence_p l hl1 (fun s hs => ok_vx (hg s hs)) (fun s hs => Nat.le_trans (len_chk (hg s hs)) (by decide))) Tryz.call134; (exact aD)) | exact yLen | exact yFieldaddr | fail); all_goals infer_instance)))); dsimp only [setD, z0, z1]) | refine WC.block ?_))
        (refine WC.loopU (X := Nat) (fun i => [(46, dI (i : Int)), (2, dA), (8, dA), (47, dA), (48, dA), (49, dA), (50, dA), (51, dA), (52, dA), (53, dA), (54, dA), (55, dA), (56, dA), (57, dA), (58, dA), (59, dA)]) (fun i => []) (fun i => l.length - i) (fun i => i ≤ l.length ∧ (l.take i).any (fun s => coveredC l s) = false) 0 ?start ?frame0 ?objs0 ?round)
        case start => exact ⟨Nat.zero_le _, rfl⟩
        case frame0 => ((try dsimp only [upds, z0, z1]); repeat (first | exact LeF.nil | refine LeF.co (k := ?_)))
        case objs0 => rfl
        case round =>
          rintro i ⟨h5, h6⟩
          dsimp only [upds, z0, z1]
          ((repeat' (first | ((first | apply WL.opN | apply WD.opN); exact yF; dsimp only [setD, z0, z1]) | refine WL.nil ?_ | refine WD.nil ?_ | refine WC.seqK fun Kx hK => ?_ | (refine hK _ _ ?_; clear hK) | (refine Kont.skip ?_; clear hK) | refine WC.region ?_ | (apply WC.draw; kernel_rfl; kernel_rfl) | ((first | apply WL.opG | apply WD.op); (focus (first | exact wN | (apply SYG.yes; (exact wY); ((first | (apply SY.ixKJ elV (OpD.t rfl) OpD.i 0 rfl; exact pos_chk (hg _ (List.getElem_mem _))) | (refine SY.lookR (a0 := ([] : List Int)) mapT_inc keyT_V (OpD.t rfl) (OpD.t rfl) isKV (ok_vx (hg _ (List.getElem_mem _)) _ (List.getElem_mem _)) (incC_ok hg) (incC_nodup l) (fun _ _ => Arr.nil')) | (apply SY.call (coveredP_p _ _ _ atM_bnd) Tryz.call135; (exact aD)) | exact yLss | exact yAdd | exact yIndexaddr | exact yFieldaddr | fail); all_goals infer_instance)))); dsimp only [setD, z0, z1]) | (apply WC.condD; (exact oD); all_goals (intro h; try exact xD)) | (apply WC.cond; (exact oD); all_goals (intro h; try exact xD)) | refine WC.skip ?_ | refine WC.ret ?_ | refine WC.exit ?_ | refine WC.block ?_ | refine ThenD.n ?_ | refine ThenD.r ?_ | refine InBlockD.r ?_)); all_goals (first | ((repeat clear hK); (repeat clear Kx))))
          · rw [anyCov hg (hg _ (List.getElem_mem (show i < l.length by omega))) (List.getElem_mem _)] at h
            (refine ⟨trivial, _, rfl, ?_⟩; refine FinD.i ?_)
            rw [hs', if_pos]
            exact List.any_eq_true.2 ⟨l[i], List.getElem_mem _, h⟩
          · rw [anyCov hg (hg _ (List.getElem_mem (show i < l.length by omega))) (List.getElem_mem _)] at h
            (refine ⟨i + 1, ?_, by first | omega | (simp only; omega), rfl, ?_⟩; rotate_left; ((try dsimp only [upds, z0, z1]); repeat (first | exact LeF.nil | refine LeF.co (k := ?_))); (try dsimp only))
            exact ⟨by omega, by rw [any_take (by omega), h6, h]; rfl⟩
          · rw [List.take_of_length_le (by omega)] at h6
            (refine ⟨trivial, _, rfl, ?_⟩; refine FinD.i ?_)
            rw [hs', if_neg (by rw [h6]; decide)]
end Go.Proofs.YtgppfikidagfpaaGreatDoor
namespace Go.Proofs.YtgppfikidagfpaaGreatDoor
open Go.RowKit
set_option linter.unusedSimpArgs false

set_option maxHeartbeats 2000000
set_option maxRecDepth 100000
theorem GoodX.len {l : Cx} (h : GoodX l) : l.length ≤ 1000000 := Nat.le_trans h.1 (by decide)
theorem GoodX.short {l : Cx} (h : GoodX l) : ∀ s ∈ l, s.length ≤ 8 := fun s hs => len_chk (h.2.2.1 s hs)
def errC : Cx → Int
  | [] => 0
  | s :: l => if chkV s ≠ 0 then chkV s else errC l
theorem errC_drop {l : Cx} {k : Nat} (h : k < l.length) : errC (l.drop k) = if chkV l[k] ≠ 0 then chkV l[k] else errC (l.drop (k + 1)) := by rw [drop_cons' h]; rfl
theorem errC_zero : ∀ {l : Cx}, errC l = 0 → ∀ s ∈ l, chkV s = 0
  | [], _, s, hs => by cases hs
  | x :: l, h, s, hs => by
    unfold errC at h
    by_cases h1 : chkV x ≠ 0
    · rw [if_pos h1] at h; exact absurd h h1
    · rw [if_neg h1] at h
      rcases List.mem_cons.1 hs with rfl | hs
      · omega
      · exact errC_zero h s hs
def ofP (l : Cx) : Cx × Int := if 4096 < l.length then ([], 5) else if errC l ≠ 0 then ([], errC l) else (maxC l, 0)
theorem of27_p (l : Cx) : Fn Tryz.prog 31 [dS Simps l] (dT [dS Cpx (ofP l).1, dI (ofP l).2]) := by
  (refine Fn.introC2 tyC Tryz.func31 rfl rfl ?_; simp only [Tryz.ntmps31, List.length_cons, List.length_nil, Nat.reduceAdd, Nat.reduceSub, List.replicate_succ, List.replicate_zero, List.cons_append, List.nil_append])
  ((repeat' (first | (apply WL.opN; exact yF; dsimp only [setD, z0, z1]) | refine WL.nil ?_ | refine WC.seqK fun Kx hK => ?_ | (refine hK _ _ ?_; clear hK) | refine WC.region ?_ | (apply WL.alloc; (first | exact tzV | exact tzC); (first | exact shape_X rfl | exact shape_XV | exact shape_C0 rfl); (intro _; dsimp only [setD, z0, z1])) | (apply WL.storeF; (exact tD); rfl; (exact oD); (exact hD); dsimp only [setD, z0, z1]) | (apply WL.opN; (focus ((first | exact yGtr | exact yLen | exact yBuild | fail); all_goals infer_instance)); dsimp only [setD, z0, z1]) | (apply WC.condD; (exact oD); all_goals (intro h; try exact xD)) | refine WC.skip ?_ | refine WC.ret ?_ | refine WC.block ?_ | refine ThenD.r ?_)); all_goals (first | refine WC.id ?_ | ((repeat clear hK); (repeat clear Kx))))
  · have e : ofP l = ([], 5) := by unfold ofP; rw [if_pos (by omega)]
    rw [e]; (refine ⟨trivial, ⟨_, rfl, ?_⟩, _, rfl, ?_⟩ <;> exact fD)
  · rename Nat => b0
    (refine WC.loopU (X := Nat) (fun k => [(13, dI (k : Int)), (3, dA), (5, dA), (6, dA), (14, dA), (15, dA), (16, dA), (17, dA), (18, dA), (19, dA), (20, dA), (21, dA), (22, dA), (23, dA)]) (fun k => [hCell b0 39 1 true (dX (.agg #[.slice none 0 0]))]) (fun k => l.length - k) (fun k => k ≤ l.length ∧ errC l = errC (l.drop k)) 0 ?start ?frame0 ?objs0 ?round)
    case start => exact ⟨Nat.zero_le _, rfl⟩
    case frame0 => ((try dsimp only [upds, z0, z1]); repeat (first | exact LeF.nil | refine LeF.co (k := ?_)))
    case objs0 => rfl
    case round =>
      rintro k ⟨h1, h2⟩
      dsimp only [upds, z0, z1]
      by_cases hz : errC l = 0
      · have hg := errC_zero hz
        have hl : l.length ≤ 1000000 := by omega
        ((repeat' (first | (apply WL.opN; exact yF; dsimp only [setD, z0, z1]) | refine WL.nil ?_ | refine WC.seqK fun Kx hK => ?_ | (refine hK _ _ ?_; clear hK) | (refine Kont.skip ?_; clear hK) | refine WC.region ?_ | (apply WL.storeF; (exact tD); rfl; (exact oD); (exact hD); dsimp only [setD, z0, z1]) | (apply WL.opN; (focus ((first | (apply SY.call (chk_p _) Tryz.call81; (exact aD)) | (apply SY.call (complexOf_p l hg hl) Tryz.call82; (exact aD)) | exact yLss | exact yNeq | exact yAdd | exact yIndexaddr | exact yBuild | fail); all_goals infer_instance)); dsimp only [setD, z0, z1]) | (apply WC.condD; (exact oD); all_goals (intro h; try exact xD)) | (apply WC.condN; (exact oD); all_goals (intro h; try exact xD)) | refine WC.skip ?_ | refine WC.ret ?_ | refine WC.exit ?_ | refine WC.block ?_ | refine ThenD.n ?_ | refine ThenD.r ?_ | refine InBlockD.r ?_)); all_goals (first | ((repeat clear hK); (repeat clear Kx))))
        · exfalso
          have := hg _ (List.getElem_mem (show k < l.length by omega))
          omega
        · (refine ⟨k + 1, ?_, by first | omega | (simp only; omega), rfl, ?_⟩; rotate_left; ((try dsimp only [upds, z0, z1]); repeat (first | exact LeF.nil | refine LeF.co (k := ?_))); (try dsimp only))
          refine ⟨by omega, ?_⟩
          rw [h2, errC_drop (by omega), if_neg (by omega)]
        · have e : ofP l = (maxC l, 0) := by unfold ofP; rw [if_neg (by omega), if_neg (by omega)]
          rw [e]; (refine ⟨trivial, ⟨_, rfl, ?_⟩, _, rfl, ?_⟩ <;> exact fD)
      · have hk : k < l.length := by
          rcases Nat.lt_or_ge k l.length with h | h
          · exact h
          · rw [List.drop_of_length_le h] at h2; exact absurd h2 hz
        ((repeat' (first | (apply WL.opN; exact yF; dsimp only [setD, z0, z1]) | refine WL.nil ?_ | refine WC.seqK fun Kx hK => ?_ | (refine hK _ _ ?_; clear hK) | refine WC.region ?_ | (apply WL.storeF; (exact tD); rfl; (exact oD); (exact hD); dsimp only [setD, z0, z1]) | (apply WL.opN; (focus ((first | (apply SY.call (chk_p _) Tryz.call81; (exact aD)) | exact yLss | exact yNeq | exact yAdd | exact yIndexaddr | exact yBuild | fail); all_goals infer_instance)); dsimp only [setD, z0, z1]) | (apply WC.condD; (exact oD); all_goals (intro h; try exact xD)) | (apply WC.condN; (exact oD); all_goals (intro h; try exact xD)) | refine WC.skip ?_ | refine WC.ret ?_ | refine WC.block ?_ | refine ThenD.n ?_ | refine ThenD.r ?_ | refine InBlockD.r ?_)); all_goals (first | ((repeat clear hK); (repeat clear Kx))))
        · have e : ofP l = ([], errC l) := by unfold ofP; rw [if_neg (by omega), if_pos hz]
          rw [e, h2, errC_drop (by omega), if_pos h]; (refine ⟨trivial, ⟨_, rfl, ?_⟩, _, rfl, ?_⟩ <;> exact fD)
        · (refine ⟨k + 1, ?_, by first | omega | (simp only; omega), rfl, ?_⟩; rotate_left; ((try dsimp only [upds, z0, z1]); repeat (first | exact LeF.nil | refine LeF.co (k := ?_))); (try dsimp only))
          refine ⟨by omega, ?_⟩
          rw [h2, errC_drop (by omega), if_neg (by omega)]
end Go.Proofs.YtgppfikidagfpaaGreatDoor
namespace Go.Proofs.YtgppfikidagfpaaGreatDoor
theorem snap_small : ∀ n, n ≤ 5 → ((ordP (2 ^ n - 1)).all fun bl => (List.range n).all fun i => decide (snapB bl i 0 ≤ 31)) = true := by
  intro n h5
  have : n = 0 ∨ n = 1 ∨ n = 2 ∨ n = 3 ∨ n = 4 ∨ n = 5 := by omega
  rcases this with rfl | rfl | rfl | rfl | rfl | rfl <;> decide +kernel
theorem ord_len : ∀ n, n ≤ 5 → (ordP (2 ^ n - 1)).length ≤ 541 := by
  intro n h5
  have : n = 0 ∨ n = 1 ∨ n = 2 ∨ n = 3 ∨ n = 4 ∨ n = 5 := by omega
  rcases this with rfl | rfl | rfl | rfl | rfl | rfl <;> decide +kernel
theorem fac_chk {s : List Vx} (hs : chkV s = 0) (hd : diffV s = true) (h5 : s.length ≤ 5) : ∀ t ∈ facB s, chkV t = 0 := fun t ht => by
  unfold facB at ht
  obtain ⟨bl, hbl, rfl⟩ := List.mem_map.1 ht
  refine place_chk hs hd fun i hi => ?_
  have h1 := List.all_eq_true.1 (snap_small s.length h5) bl hbl
  have h2 := of_decide_eq_true (List.all_eq_true.1 h1 i (List.mem_range.2 hi))
  omega
theorem errC_ok : ∀ {l : Cx}, (∀ s ∈ l, chkV s = 0) → errC l = 0
  | [], _ => rfl
  | s :: l, h => by
    unfold errC
    rw [if_neg (fun q => q (h s (List.mem_cons_self ..)))]
    exact errC_ok fun t ht => h t (List.mem_cons_of_mem _ ht)
theorem fac_of {s : List Vx} (hs : chkV s = 0) (hd : diffV s = true) (h5 : s.length ≤ 5) : ofP (facB s) = (maxC (facB s), 0) ∧ GoodX (maxC (facB s)) ∧ (maxC (facB s)).length ≤ 541 := by
  have hc := fac_chk hs hd h5
  have hl : (facB s).length ≤ 541 := by
    unfold facB
    rw [List.length_map]
    exact ord_len s.length h5
  have hm : (maxC (facB s)).length ≤ 541 := by
    have := List.Nodup.length_le_of_subset (maxC_asc (facB s)).nodup fun x hx => (maxC_mem.1 hx).1
    omega
  refine ⟨?_, good_max (fun t ht _ => hc t ht) (by omega), hm⟩
  unfold ofP
  rw [if_neg (by omega), if_neg (fun q => q (errC_ok hc))]
end Go.Proofs.YtgppfikidagfpaaGreatDoor
namespace Go.Proofs.YtgppfikidagfpaaGreatDoor
open Go.RowKit
set_option maxRecDepth 100000
abbrev hA (b : Nat) (T : TypeId) (cs : List Value) : HObj := hObj b (.cells cs.toArray T)
end Go.Proofs.YtgppfikidagfpaaGreatDoor
namespace Go.Proofs.YtgppfikidagfpaaGreatDoor
open Go.RowKit
set_option linter.unusedSimpArgs false

set_option maxHeartbeats 2000000
set_option maxRecDepth 100000
section
variable {P : Program} {f : FuncId} {fn : Func} {c : Code} {t u : Tmp} {ds : List Dat} {hp1 : List HObj} {K : Dat → List HObj → Prop}
def finC22 (t u : Nat) (K : Dat → List HObj → Prop) (hp : List HObj) : Post := fun e f q => (match e with | .normal | .ret => True | _ => False) ∧ ∃ d d' hp2, f[t]? = some d ∧ f[u]? = some d' ∧ q = hp2 ++ hp ∧ K (dT [d, d']) hp2
theorem CallC.intro2 (hf : P.funcs[f]? = some fn) (hb : fn.body = some c) (hr : fn.results = #[.tmp t, .tmp u])
    (h : ∀ hp, WC P (finC22 t u K hp) c (ds ++ List.replicate (fn.ntmps - ds.length) (dX undef)) (hp1 ++ hp)) : CallC P f ds hp1 K := ⟨fun P0 B w0 hp vs W hh hl hv => by
  refine calls_of_wp hf hb ?_
  have hf0 := fr_enter (m := fn.ntmps - ds.length) hl hv
  have hsz : vs.toArray.size = ds.length := by simp [hl]
  rw [hsz]
  refine Code.wp_mono (fun e a' w' ⟨f', p', q, hh', hf'⟩ => ?_) ((h hp).on hh hf0)
  obtain ⟨hx, d, d', hp2, hd, hd', rfl, hk'⟩ := q
  have hv := hf'.rd t d hd
  have hv' := hf'.rd u d' hd'
  have hT : (dT [d, d']).rd (Imm P0 B (hp2 ++ hp)) w' (.tuple #[a'.tmps.getD t undef, a'.tmps.getD u undef]) := ⟨[a'.tmps.getD t undef, a'.tmps.getD u undef], rfl, rfl, fun i e x he hx => by
    match i, he, hx with
    | 0, he, hx => cases he; cases hx; exact hv
    | 1, he, hx => cases he; cases hx; exact hv'⟩
  cases e with
  | normal => exact ⟨hf'.defers, _, results_tmp2 hr _ _ _, _, _, hp2, rfl, hk', hh', hT⟩
  | ret => exact ⟨hf'.defers, _, results_tmp2 hr _ _ _, _, _, hp2, rfl, hk', hh', hT⟩
  | _ => exact hx.elim⟩
end
def tooMany (l : Cx) (k : Nat) : Prop := 4096 < (allC l k).length
end Go.Proofs.YtgppfikidagfpaaGreatDoor
namespace Go.Proofs.YtgppfikidagfpaaGreatDoor
open Go.RowKit
set_option linter.unusedSimpArgs false

set_option maxHeartbeats 2000000
set_option maxRecDepth 100000
theorem FinD.t2 {hp : List HObj} {a b a' b' : Dat} (h : FinD hp a a') (k : FinD hp b b') : FinD hp (dT [a, b]) (dT [a', b']) := FinD.mk fun {P0 B w0 w v} hh hd => by
  obtain ⟨vs, rfl, hl, hv⟩ := hd
  match vs, hl with
  | [x, y], _ =>
    refine ⟨[x, y], rfl, rfl, fun i d u hd hu => ?_⟩
    match i, hd, hu with
    | 0, hd, hu => cases hd; cases hu; exact h.out hh (hv 0 _ _ rfl rfl)
    | 1, hd, hu => cases hd; cases hu; exact k.out hh (hv 1 _ _ rfl rfl)
instance (l : Cx) (k : Nat) : Decidable (tooMany l k) := inferInstanceAs (Decidable (4096 < (allC l k).length))
end Go.Proofs.YtgppfikidagfpaaGreatDoor
namespace Go.Proofs.YtgppfikidagfpaaGreatDoor
open Go.RowKit
theorem wp_mono2 {P : Program} {o : Oper} {a : Act} {w : World} {K K' : Act → World → Prop} {Q Q' : Exit → Act → World → Prop} (h : ∀ a w, K a w → K' a w) (hq : ∀ e a w, e ≠ .normal → Q e a w → Q' e a w)
    (hh : o.wp P a w K Q) : o.wp P a w K' Q' := by
  have hl : LetsOut Q → LetsOut Q' := fun ⟨a, w, x⟩ => ⟨a, w, hq _ _ _ (by simp) x⟩
  unfold Oper.wp at *
  generalize (execOp a.eval o).run P w = r at *
  cases r with
  | ok n w' =>
    cases n <;> simp only [Oper.upon] at hh ⊢ <;>
      first
        | exact h _ _ hh
        | exact Calls.mono hh (fun e w'' he => by cases e <;> first | exact h _ _ he | exact hq _ _ _ (by simp) he | exact hl he)
        | exact Rows.mono hh (fun _ _ he => h _ _ he)
  | halt x w' => cases x <;> simp only [Oper.upon] at hh ⊢ <;> first | exact hh | exact hq _ _ _ (by simp) hh
structure WA (P : Program) (ops : Array Oper) (Q : Post) (g : Nat) (S : List Bool) (fr : List Dat) (hp : List HObj) : Prop where
  of ::
  out : ∀ (P0 : Nat → Prop) (B : Nat) (w0 w : World) (a : Act), Hp P0 B w0 hp w → Fr (Imm P0 B hp) w a fr → wpAny P .any ops (lift Q P0 B w0) g S.toArray a w
def ThenA (P : Program) (ops : Array Oper) (Q : Post) (g : Nat) (S : List Bool) : Post := fun e f p => match e with | .normal => WA P ops Q g S f p | e => Q e f p
section
variable {P : Program} {ops : Array Oper} {hp : List HObj} {fr : List Dat} {Q : Post} {g : Nat} {S : List Bool}
theorem WA.id (h : WA P ops Q g S fr hp) : WA P ops Q g S fr hp := h
theorem WA.nil (hr : Region.ready .any ops S.toArray = []) (h : Q .normal fr hp) : WA P ops Q 0 S fr hp := WA.of fun _ _ _ _ _ hh hf => ⟨hr, fr, hp, h, hh, hf⟩
theorem WA.step {i : Nat} {o : Oper} (ho : ops[i]? = some o) (h : WL P ops (ThenA P ops Q g (S.set i true)) [o] fr hp) {P0 : Nat → Prop} {B : Nat} {w0 w : World} {a : Act} (hh : Hp P0 B w0 hp w) (hf : Fr (Imm P0 B hp) w a fr) :
    wpOp P ops (lift Q P0 B w0) i (wpAny P .any ops (lift Q P0 B w0) g (S.toArray.setIfInBounds i true)) a w := by
  have h1 := h.on hh hf
  unfold wpList at h1
  unfold wpOp
  simp only [ho]
  have he : S.toArray.setIfInBounds i true = (S.set i true).toArray := by simp
  rw [he]
  have hK : ∀ a' w', wpList P ops (lift (ThenA P ops Q g (S.set i true)) P0 B w0) [] a' w' → wpAny P .any ops (lift Q P0 B w0) g (S.set i true).toArray a' w' := fun a' w' hn => by
    obtain ⟨f, p, q, r, s⟩ := (hn : lift (ThenA P ops Q g (S.set i true)) P0 B w0 .normal a' w')
    exact (q : WA P ops Q g (S.set i true) f p).out _ _ _ _ _ r s
  have hQ : ∀ e a' w', e ≠ .normal → lift (ThenA P ops Q g (S.set i true)) P0 B w0 e a' w' → lift Q P0 B w0 e a' w' := fun e a' w' hne ⟨f, p, q, r, s⟩ => by
    cases e with
    | normal => exact absurd rfl hne
    | _ => exact ⟨f, p, q, r, s⟩
  split
  · rename_i hw
    rw [if_pos hw] at h1
    rcases h1 with h1 | ⟨h1, a2, w2, h2⟩
    · exact .inl (wp_mono2 hK hQ h1)
    · exact .inr ⟨h1, a2, w2, hQ _ _ _ (by simp) h2⟩
  · rename_i hw
    rw [if_neg hw] at h1
    exact hK _ _ h1
theorem WA.one {l : List Oper} {i : Nat} {o : Oper} (hr : Region.ready .any l.toArray S.toArray = [i]) (ho : l[i]? = some o) (h : WL P l.toArray (ThenA P l.toArray Q g (S.set i true)) [o] fr hp) : WA P l.toArray Q (g + 1) S fr hp := WA.of fun P0 B w0 w a hh hf => by
  refine ⟨fun h0 => (by rw [hr] at h0; cases h0), fun j hj => ?_⟩
  rw [hr] at hj
  cases List.mem_singleton.1 hj
  exact WA.step (by simpa using ho) h hh hf
theorem ThenA.n (h : WA P ops Q g S fr hp) : ThenA P ops Q g S .normal fr hp := h
end
end Go.Proofs.YtgppfikidagfpaaGreatDoor
namespace Go.Proofs.YtgppfikidagfpaaGreatDoor
open Go.RowKit
section
variable {P : Program} {ops : Array Oper} {md : Region.Mode} {fr fr' : List Dat} {hp : List HObj} {C : List HObj → Prop}
inductive WM (P : Program) (ops : Array Oper) (C : List HObj → Prop) (Q : List Dat → List HObj → Prop) : List (Nat × Bool) → List Dat → List HObj → Prop
  | nil {fr : List Dat} {hp : List HObj} : Q fr hp → WM P ops C Q [] fr hp
  | read {i : Nat} {o : Oper} {r : List (Nat × Bool)} {fr : List Dat} {hp : List HObj} {d : Dat} : ops[i]? = some o → (∀ hp', C hp' → SYG P ops hp' o fr d) → WM P ops C Q r (setD fr o.dst d) hp → WM P ops C Q ((i, false) :: r) fr hp
  | write {i : Nat} {o : Oper} {r : List (Nat × Bool)} {fr : List Dat} {hp : List HObj} {β : Type} {H : β → List HObj} {D : β → Dat} : ops[i]? = some o → SW P ops hp H D o fr → (∀ x, C (H x)) → (∀ x, WM P ops C Q r (setD fr o.dst (D x)) (H x)) → WM P ops C Q ((i, true) :: r) fr hp
theorem WM.id {Q : List Dat → List HObj → Prop} {r : List (Nat × Bool)} (h : WM P ops C Q r fr hp) : WM P ops C Q r fr hp := h
end
end Go.Proofs.YtgppfikidagfpaaGreatDoor
namespace Go.Proofs.YtgppfikidagfpaaGreatDoor
open Go.RowKit
set_option linter.unusedSimpArgs false

set_option maxHeartbeats 2000000
set_option maxRecDepth 100000
abbrev vvI (n : Int) : Value := .int .i64 n
end Go.Proofs.YtgppfikidagfpaaGreatDoor
namespace Go.Proofs.YtgppfikidagfpaaGreatDoor
open Go.RowKit
set_option linter.unusedSimpArgs false

set_option maxHeartbeats 2000000
set_option maxRecDepth 100000
def chooseN : Nat → Nat → Nat
  | _, 0 => 1
  | 0, _ + 1 => 0
  | n + 1, k + 1 => chooseN n k + chooseN n (k + 1)
theorem subs_choose : ∀ (s : List Vx) (k : Nat), (subsV k s).length = chooseN s.length k
  | s, 0 => by rw [subsV_zero]; cases s <;> rfl
  | [], k + 1 => by rw [subsV_short _ _ (by simp)]; rfl
  | v :: s, k + 1 => by rw [subsV_next, subs_choose s k, subs_choose s (k + 1)]; rfl
end Go.Proofs.YtgppfikidagfpaaGreatDoor
