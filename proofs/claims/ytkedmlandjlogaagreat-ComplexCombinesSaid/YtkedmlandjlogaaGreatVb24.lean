/-
  Part 24 of the texts that the claims of this seat lean on: walks of the program's functions by contracts over symbolic frames, and plain laws of what they compute. No condition.
-/
import Derived.Test.YtkedmlandjlogaaGreatVb18
import Derived.Test.YtkedmlandjlogaaGreatVb20
import Derived.Test.YtkedmlandjlogaaGreatVb21
import Derived.Test.YtkedmlandjlogaaGreatVb22
import Derived.Test.YtkedmlandjlogaaGreatVb23
set_option linter.unusedVariables false
set_option linter.unusedSimpArgs false
set_option linter.unusedSectionVars false
namespace Go.Proofs.YtkedmlandjlogaaGreat
open Go.RowKit
set_option linter.unusedSimpArgs false

set_option maxHeartbeats 2000000
set_option maxRecDepth 100000
abbrev VxOf (S : Vx → Prop) := {v : Vx // S v}
abbrev dPredW (S : Vx → Prop) (p : Vx → Bool) : Dat := dFun Tryz.prog (fun v : VxOf S => [dS RV v.1]) (fun v => dB (p v.1))
set_option maxHeartbeats 1000000 in
theorem filterV_p (S : Vx → Prop) (s : List Vx) (p : Vx → Bool) (hS : ∀ v ∈ s, S v) (hl : s.length ≤ 1000) : Fn Tryz.prog 149 [dS Verts s, dPredW S p] (dS Verts (s.filter p)) := by
  (refine Fn.intro1 Tryz.func149 rfl rfl ?_; simp only [Tryz.ntmps149, List.length_cons, List.length_nil, Nat.reduceAdd, Nat.reduceSub, List.replicate_succ, List.replicate_zero, List.cons_append, List.nil_append])
  ((repeat' (first | (apply WL.opG; (focus (apply SYG.yes; (exact want_none rfl); (first | (apply SY.move <;> (exact oD)) | (apply SY.assign <;> (exact oD)) | (apply SY.load; (exact tD); (exact OpD.t rfl))))); dsimp only [setD, z0, z1]) | refine WL.nil ?_ | refine WC.seqK fun Kx hK => ?_ | (refine hK _ _ ?_; clear hK) | refine WC.region ?_ | (apply WL.opG; (focus (apply SYG.yes; (exact want_none rfl); ((first | exact yLen | fail); all_goals infer_instance))); dsimp only [setD, z0, z1]) | refine WC.block ?_)); all_goals (first | refine WC.id ?_ | refine WL.id ?_ | refine WDs.id ?_ | ((repeat clear hK); (repeat clear Kx))))
  refine WC.nilRowK 37 2 (by decide) RV ?_
  (refine WC.loopU (X := Nat × Value) (fun x => [(5, dX x.2), (10, dI (x.1 : Int)), (7, dA), (11, dA), (12, dA), (13, dA), (14, dA), (15, dA), (16, dA), (17, dA), (18, dA), (19, dA), (20, dA), (21, dA)]) (fun x => [hRowK x.2 37 2 RV ((s.take x.1).filter p)]) (fun x => s.length - x.1) (fun x => x.1 ≤ s.length) (0, .slice none 0 0) ?start ?frame0 ?objs0 ?round)
  case start => simp
  case frame0 => ((try dsimp only [upds, z0, z1]); repeat (first | exact LeF.nil | refine LeF.cons (by first | with_reducible exact Dat.le_any _ | with_reducible exact Dat.le_refl _ | exact le_ii (by omega) | exact Dat.le_nil | exact Dat.le_nilK (by decide) | assumption | exact Dat.le_refl _ | exact le_eq (by simp)) ?_))
  case objs0 => rfl
  case round =>
    rintro ⟨k, u⟩ h1
    dsimp only [upds, z0, z1]
    simp only at h1
    have h2 : ((s.take k).filter p).length ≤ 1000 := Nat.le_trans (List.length_filter_le _ _) (Nat.le_trans (List.length_take_le _ _) (by omega))
    ((repeat' (first | (apply WL.opG; (focus (apply SYG.yes; (exact want_none rfl); (first | (apply SY.move <;> (exact oD)) | (apply SY.assign <;> (exact oD)) | (apply SY.load; (exact tD); (exact OpD.t rfl))))); dsimp only [setD, z0, z1]) | refine WL.nil ?_ | refine WC.seqK fun Kx hK => ?_ | (refine hK _ _ ?_; clear hK) | (refine Kont.skip ?_; clear hK) | refine WC.region ?_ | ((first | apply WL.pushK | apply WL.push1); (exact eD); exact OpD.t rfl; (exact oD); (intro _; first | exact shape_V | exact shape_I | exact shape_B | exact shape_A | exact shape_K); (exact (by simp)); (exact (by simp)); (first | exact ⟨by decide, by decide⟩ | skip); decide; (exact lD); (intro _; dsimp only [setD, z0, z1]); all_goals (try infer_instance)) | (apply WL.alloc; (first | exact tzV | exact tzC); (first | exact shape_X rfl | exact shape_XV | exact shape_C0 rfl); (intro _; dsimp only [setD, z0, z1])) | (apply WL.storeF; (exact tD); rfl; (exact oD); (exact hD); dsimp only [setD, z0, z1]) | (apply WL.opG; (focus (apply SYG.yes; (exact want_none rfl); ((first | (apply SY.dynF (x := (⟨s[k], hS _ (List.getElem_mem _)⟩ : VxOf S)); (exact OpD.t rfl); (exact aD)) | exact yLss | exact yAdd | exact yIndexaddr | fail); all_goals infer_instance))); dsimp only [setD, z0, z1]) | (apply WC.condD; (exact oD); (all_goals intro h); (all_goals try (exfalso; first | omega | contradiction))) | (apply WC.cond; (exact oD); (all_goals intro h); (all_goals try (exfalso; first | omega | contradiction))) | refine WC.skip ?_ | refine WC.ret ?_ | refine WC.exit ?_ | refine WC.block ?_ | refine ThenD.n ?_)); all_goals (first | refine WC.id ?_ | refine WL.id ?_ | refine WDs.id ?_ | ((repeat clear hK); (repeat clear Kx))))
    · (refine ⟨(k + 1, _) , ?_, by first | omega | (simp only; omega), by ((try simp only);  (rw [filter_snoc (by omega), if_pos h])), ?_⟩; rotate_left; ((try dsimp only [upds, z0, z1]); repeat (first | exact LeF.nil | refine LeF.cons (by first | with_reducible exact Dat.le_any _ | with_reducible exact Dat.le_refl _ | exact le_ii (by omega) | exact Dat.le_nil | exact Dat.le_nilK (by decide) | assumption | exact Dat.le_refl _ | exact le_eq (by simp)) ?_)); (try dsimp only))
      omega
    · (refine ⟨(k + 1, _) , ?_, by first | omega | (simp only; omega), by ((try simp only);  (rw [filter_snoc (by omega), if_neg (by simp [h]), List.append_nil])), ?_⟩; rotate_left; ((try dsimp only [upds, z0, z1]); repeat (first | exact LeF.nil | refine LeF.cons (by first | with_reducible exact Dat.le_any _ | with_reducible exact Dat.le_refl _ | exact le_ii (by omega) | exact Dat.le_nil | exact Dat.le_nilK (by decide) | assumption | exact Dat.le_refl _ | exact le_eq (by simp)) ?_)); (try dsimp only))
      omega
    · (refine ⟨trivial, _, rfl, ?_⟩; (first | exact fD | refine FinD.i ?_ | refine FinD.b ?_ | refine FinD.rowKE (.head _) ?_ | refine FinD.rowE (.head _) ?_ | refine FinD.nilKE (by decide) ?_ | refine FinD.nilE ?_ | refine FinD.s ?_))
      rw [List.take_of_length_le (by omega)]
def eachC (p : Vx → Bool) (l : Cx) : Cx := (l.map fun s => s.filter p).filter fun s => decide (0 < s.length)
theorem eachC_snoc {p : Vx → Bool} {l : Cx} {k : Nat} (h : k < l.length) : eachC p (l.take (k + 1)) = eachC p (l.take k) ++ (if 0 < (l[k].filter p).length then [l[k].filter p] else []) := by
  unfold eachC
  rw [take_snoc' h, List.map_append, List.filter_append]
  by_cases hp : 0 < (l[k].filter p).length
  · rw [if_pos hp]; simp only [List.map_cons, List.map_nil]; rw [List.filter_cons_of_pos (by simpa using hp)]; rfl
  · rw [if_neg hp]; simp only [List.map_cons, List.map_nil]; rw [List.filter_cons_of_neg (by simpa using hp)]; rfl
theorem each_p (S : Vx → Prop) (l : Cx) (p : Vx → Bool) (hS : ∀ s ∈ l, ∀ v ∈ s, S v) (hs : ∀ s ∈ l, s.length ≤ 1000) (hl : l.length ≤ 1000000) : Fn Tryz.prog 87 [dS Simps l, dPredW S p] (dS Simps (eachC p l)) := by
  (refine Fn.intro1 Tryz.func87 rfl rfl ?_; simp only [Tryz.ntmps87, List.length_cons, List.length_nil, Nat.reduceAdd, Nat.reduceSub, List.replicate_succ, List.replicate_zero, List.cons_append, List.nil_append])
  ((repeat' (first | (apply WL.opG; (focus (apply SYG.yes; (exact want_none rfl); (first | (apply SY.move <;> (exact oD)) | (apply SY.assign <;> (exact oD)) | (apply SY.load; (exact tD); (exact OpD.t rfl))))); dsimp only [setD, z0, z1]) | refine WL.nil ?_ | refine WC.seqK fun Kx hK => ?_ | (refine hK _ _ ?_; clear hK) | refine WC.region ?_ | (apply WL.opG; (focus (apply SYG.yes; (exact want_none rfl); ((first | exact yLen | fail); all_goals infer_instance))); dsimp only [setD, z0, z1]) | refine WC.block ?_)); all_goals (first | refine WC.id ?_ | refine WL.id ?_ | refine WDs.id ?_ | ((repeat clear hK); (repeat clear Kx))))
  refine WC.nilRow 32 Verts ?_
  (refine WC.loopU (X := Nat × Value × Cx) (fun x => [(5, dX x.2.1), (11, dI (x.1 : Int)), (7, dA), (8, dA), (12, dA), (13, dA), (14, dA), (15, dA), (16, dA), (17, dA), (18, dA), (19, dA), (20, dA), (21, dA), (22, dA), (23, dA), (24, dA), (25, dA)]) (fun x => [hRow x.2.1 32 Verts x.2.2]) (fun x => l.length - x.1) (fun x => x.1 ≤ l.length ∧ x.2.2 = eachC p (l.take x.1)) (0, .slice none 0 0, []) ?start ?frame0 ?objs0 ?round)
  case start => exact ⟨Nat.zero_le _, by simp [eachC]⟩
  case frame0 => ((try dsimp only [upds, z0, z1]); repeat (first | exact LeF.nil | refine LeF.cons (by first | with_reducible exact Dat.le_any _ | with_reducible exact Dat.le_refl _ | exact le_ii (by omega) | exact Dat.le_nil | exact Dat.le_nilK (by decide) | assumption | exact Dat.le_refl _ | exact le_eq (by simp)) ?_))
  case objs0 => rfl
  case round =>
    rintro ⟨k, u, o⟩ ⟨h1, h2⟩
    dsimp only [upds, z0, z1]
    simp only at h1 h2
    have hol : o.length ≤ 1000000 := by
      have h5 := List.length_filter_le (fun s : List Vx => decide (0 < s.length)) ((l.take k).map fun s => s.filter p)
      rw [List.length_map, List.length_take] at h5
      rw [h2]; unfold eachC; omega
    ((repeat' (first | (apply WL.opG; (focus (apply SYG.yes; (exact want_none rfl); (first | (apply SY.move <;> (exact oD)) | (apply SY.assign <;> (exact oD)) | (apply SY.load; (exact tD); (exact OpD.t rfl))))); dsimp only [setD, z0, z1]) | refine WL.nil ?_ | refine WC.seqK fun Kx hK => ?_ | (refine hK _ _ ?_; clear hK) | (refine Kont.skip ?_; clear hK) | refine WC.region ?_ | ((first | apply WL.pushK | apply WL.push1); (exact eD); exact OpD.t rfl; (exact oD); (intro _; first | exact shape_V | exact shape_I | exact shape_B | exact shape_A | exact shape_K); (exact (by simp)); (exact (by simp)); (first | exact ⟨by decide, by decide⟩ | skip); decide; (exact lD); (intro _; dsimp only [setD, z0, z1]); all_goals (try infer_instance)) | (apply WL.opG; (focus (apply SYG.yes; (exact want_none rfl); ((first | (apply SY.call (filterV_p S _ p (hS _ (List.getElem_mem _)) (hs _ (List.getElem_mem _))) Tryz.call149; (exact aD)) | exact yLss | exact yGtr | exact yAdd | exact yLen | exact yIndexaddr | fail); all_goals infer_instance))); dsimp only [setD, z0, z1]) | (apply WC.condD; (exact oD); (all_goals intro h); (all_goals try (exfalso; first | omega | contradiction))) | refine WC.skip ?_ | refine WC.ret ?_ | refine WC.exit ?_ | refine WC.block ?_ | refine ThenD.n ?_)); all_goals (first | refine WC.id ?_ | refine WL.id ?_ | refine WDs.id ?_ | ((repeat clear hK); (repeat clear Kx))))
    · (refine ⟨(k + 1, _, o ++ [l[k].filter p]), ?_, by first | omega | (simp only; omega), rfl, ?_⟩; rotate_left; ((try dsimp only [upds, z0, z1]); repeat (first | exact LeF.nil | refine LeF.cons (by first | with_reducible exact Dat.le_any _ | with_reducible exact Dat.le_refl _ | exact le_ii (by omega) | exact Dat.le_nil | exact Dat.le_nilK (by decide) | assumption | exact Dat.le_refl _ | exact le_eq (by simp)) ?_)); (try dsimp only))
      refine ⟨by omega, ?_⟩
      show o ++ _ = _
      rw [eachC_snoc (by omega), if_pos (by omega), ← h2]
    · (refine ⟨(k + 1, u, o), ?_, by first | omega | (simp only; omega), rfl, ?_⟩; rotate_left; ((try dsimp only [upds, z0, z1]); repeat (first | exact LeF.nil | refine LeF.cons (by first | with_reducible exact Dat.le_any _ | with_reducible exact Dat.le_refl _ | exact le_ii (by omega) | exact Dat.le_nil | exact Dat.le_nilK (by decide) | assumption | exact Dat.le_refl _ | exact le_eq (by simp)) ?_)); (try dsimp only))
      refine ⟨by omega, ?_⟩
      show o = _
      rw [eachC_snoc (by omega), if_neg (by omega), List.append_nil, ← h2]
    · rw [List.take_of_length_le (by omega)] at h2
      subst h2
      (refine ⟨trivial, _, rfl, ?_⟩; (first | exact fD | refine FinD.i ?_ | refine FinD.b ?_ | refine FinD.rowKE (.head _) ?_ | refine FinD.rowE (.head _) ?_ | refine FinD.nilKE (by decide) ?_ | refine FinD.nilE ?_ | refine FinD.s ?_))
end Go.Proofs.YtkedmlandjlogaaGreat
namespace Go.Proofs.YtkedmlandjlogaaGreat
open Go.RowKit
set_option linter.unusedSimpArgs false

set_option maxHeartbeats 2000000
set_option maxRecDepth 100000
def starC (l : Cx) (s : List Vx) : Cx × Int := if placeC l s ≠ 0 then ([], placeC l s) else (aroundC l s, 0)
def linkC (l : Cx) (s : List Vx) : Cx × Int := if placeC l s ≠ 0 then ([], placeC l s) else (maxC ((aroundC l s).map fun f => sharedV f s false), 0)
end Go.Proofs.YtkedmlandjlogaaGreat
namespace Go.Proofs.YtkedmlandjlogaaGreat
open Go.RowKit
set_option linter.unusedSimpArgs false

set_option maxHeartbeats 2000000
set_option maxRecDepth 100000
theorem dimC_le {l : Cx} (h : ∀ s ∈ l, s.length ≤ 8) : -1 ≤ dimC l ∧ dimC l ≤ 7 := by
  have go : ∀ (l : Cx) (m : Int), -1 ≤ m → m ≤ 7 → (∀ s ∈ l, s.length ≤ 8) → -1 ≤ l.foldl (fun m s => if m < (s.length : Int) - 1 then (s.length : Int) - 1 else m) m ∧ l.foldl (fun m s => if m < (s.length : Int) - 1 then (s.length : Int) - 1 else m) m ≤ 7 := by
    intro l
    induction l with
    | nil => intro m h1 h2 _; exact ⟨h1, h2⟩
    | cons s l ih =>
      intro m h1 h2 h
      have := h s (by simp)
      refine ih _ ?_ ?_ fun t ht => h t (by simp [ht])
      · dsimp only; split <;> omega
      · dsimp only; split <;> omega
  exact go l (-1) (by decide) (by decide) h
def oneC (l : Cx) (f : List Vx) : Bool := decide ((aroundC l f).length = 1)
def okC (l : Cx) (f : List Vx) : Bool := decide ((aroundC l f).length = 1) || decide ((aroundC l f).length = 2)
end Go.Proofs.YtkedmlandjlogaaGreat
namespace Go.Proofs.YtkedmlandjlogaaGreat
theorem good_sub {l l' : Cx} (h : GoodX l) (hs : l'.Sublist l) : GoodX l' := by
  refine ⟨Nat.le_trans hs.length_le h.1, List.Pairwise.sublist hs h.2.1, fun s hm => h.2.2.1 s (hs.subset hm), fun s hm => ?_⟩
  rw [Bool.eq_false_iff]
  intro hc
  obtain ⟨x, hx, hr⟩ := coveredC_iff.1 hc
  have := coveredC_iff.2 ⟨x, hs.subset hx, hr⟩
  rw [h.2.2.2 s (hs.subset hm)] at this
  cases this
theorem GoodX.asc {l : Cx} (h : GoodX l) : ∀ s ∈ l, Asc s := fun s hs => (chkV_zero.1 (h.2.2.1 s hs)).2.2.2
theorem around_eq {l : Cx} {s : List Vx} (h : ∀ f ∈ l, Asc f) (hs : Asc s) : l.filter (faceG s) = aroundC l s := List.filter_congr fun f hf => faceG_inside s f hs (h f hf)
theorem around_good {l : Cx} {s : List Vx} (h : GoodX l) : GoodX (aroundC l s) := good_sub h List.filter_sublist
theorem has_around {l : Cx} {s : List Vx} : hasC' l s = decide (0 < (aroundC l s).length) := by
  unfold hasC' aroundC
  rw [Bool.eq_iff_iff, List.any_eq_true, decide_eq_true_eq, List.length_pos_iff_exists_mem]
  constructor
  · rintro ⟨x, hx, h⟩; exact ⟨x, List.mem_filter.2 ⟨hx, h⟩⟩
  · rintro ⟨x, h⟩; exact ⟨x, (List.mem_filter.1 h).1, (List.mem_filter.1 h).2⟩
theorem max_ext {l l' : Cx} (h : ∀ x, x.length ≠ 0 → (x ∈ l ↔ x ∈ l')) : maxC l = maxC l' := by
  refine ascL_ext (maxC_asc l) (maxC_asc l') fun x => ?_
  rw [maxC_mem, maxC_mem]
  have hcov : ∀ {a b : Cx}, (∀ x, x.length ≠ 0 → x ∈ a → x ∈ b) → coveredC a x = true → coveredC b x = true := fun hab hc => by
    obtain ⟨y, hy, hl, hi⟩ := coveredC_iff.1 hc
    exact coveredC_iff.2 ⟨y, hab y (by omega) hy, hl, hi⟩
  have he : coveredC l x = coveredC l' x := by
    rw [Bool.eq_iff_iff]
    exact ⟨hcov fun x hx => (h x hx).1, hcov fun x hx => (h x hx).2⟩
  unfold topC
  rw [he]
  by_cases hx : x.length = 0
  · simp [hx]
  · rw [h x hx]
theorem max_ne (l : Cx) : maxC (l.filter fun s => decide (0 < s.length)) = maxC l := max_ext fun x hx => by
  rw [List.mem_filter]
  simp; omega
theorem max_each (p : Vx → Bool) (l : Cx) : maxC (eachC p l) = maxC (l.map fun s => s.filter p) := max_ne _
theorem each_good {p : Vx → Bool} {l : Cx} (h : ∀ s ∈ l, chkV s = 0) : ∀ s ∈ eachC p l, chkV s = 0 := fun s hs => by
  unfold eachC at hs
  obtain ⟨h1, h2⟩ := List.mem_filter.1 hs
  obtain ⟨f, hf, rfl⟩ := List.mem_map.1 h1
  exact sub_good (h f hf) List.filter_sublist (ne_nil (by simpa using h2))
theorem most_dim (l : Cx) : mostC l - 1 = dimC l := by
  have go : ∀ (l : Cx) (m : Int), l.foldl (fun m s => if m < (s.length : Int) then (s.length : Int) else m) m - 1 = l.foldl (fun m s => if m < (s.length : Int) - 1 then (s.length : Int) - 1 else m) (m - 1) := by
    intro l
    induction l with
    | nil => intro m; rfl
    | cons s l ih =>
      intro m
      rw [List.foldl_cons, List.foldl_cons, ih]
      congr 1
      split <;> split <;> omega
  exact go l 0
theorem most_max (l : Cx) : (∀ s ∈ l, (s.length : Int) ≤ mostC l) ∧ (mostC l = 0 ∨ ∃ s ∈ l, mostC l = s.length) := by
  have go : ∀ (l : Cx) (m : Int), m ≤ l.foldl (fun m s => if m < (s.length : Int) then (s.length : Int) else m) m ∧ (∀ s ∈ l, (s.length : Int) ≤ l.foldl (fun m s => if m < (s.length : Int) then (s.length : Int) else m) m) ∧
      (l.foldl (fun m s => if m < (s.length : Int) then (s.length : Int) else m) m = m ∨ ∃ s ∈ l, l.foldl (fun m s => if m < (s.length : Int) then (s.length : Int) else m) m = s.length) := by
    intro l
    induction l with
    | nil => intro m; simp
    | cons s l ih =>
      intro m
      rw [List.foldl_cons]
      obtain ⟨h1, h2, h3⟩ := ih (if m < (s.length : Int) then (s.length : Int) else m)
      refine ⟨by split at h1 <;> split <;> omega, fun x hx => ?_, ?_⟩
      · rcases List.mem_cons.1 hx with rfl | hx
        · split at h1 <;> split <;> omega
        · exact h2 x hx
      · rcases h3 with h3 | ⟨x, hx, h3⟩
        · rw [h3]
          split
          · exact .inr ⟨s, by simp, rfl⟩
          · exact .inl rfl
        · exact .inr ⟨x, by simp [hx], h3⟩
  exact ⟨(go l 0).2.1, (go l 0).2.2⟩
theorem least_min (l : Cx) : (∀ s ∈ l, leastC l ≤ (s.length : Int)) ∧ (leastC l = 8 ∨ ∃ s ∈ l, leastC l = s.length) := by
  have go : ∀ (l : Cx) (m : Int), l.foldl (fun m s => if (s.length : Int) < m then (s.length : Int) else m) m ≤ m ∧ (∀ s ∈ l, l.foldl (fun m s => if (s.length : Int) < m then (s.length : Int) else m) m ≤ (s.length : Int)) ∧
      (l.foldl (fun m s => if (s.length : Int) < m then (s.length : Int) else m) m = m ∨ ∃ s ∈ l, l.foldl (fun m s => if (s.length : Int) < m then (s.length : Int) else m) m = s.length) := by
    intro l
    induction l with
    | nil => intro m; simp
    | cons s l ih =>
      intro m
      rw [List.foldl_cons]
      obtain ⟨h1, h2, h3⟩ := ih (if (s.length : Int) < m then (s.length : Int) else m)
      refine ⟨by split at h1 <;> split <;> omega, fun x hx => ?_, ?_⟩
      · rcases List.mem_cons.1 hx with rfl | hx
        · split at h1 <;> split <;> omega
        · exact h2 x hx
      · rcases h3 with h3 | ⟨x, hx, h3⟩
        · rw [h3]
          split
          · exact .inr ⟨s, by simp, rfl⟩
          · exact .inl rfl
        · exact .inr ⟨x, by simp [hx], h3⟩
  exact ⟨(go l 8).2.1, (go l 8).2.2⟩
theorem pureC_iff {l : Cx} (h8 : ∀ s ∈ l, s.length ≠ 0 ∧ s.length ≤ 8) : pureC l = true ↔ ∀ s ∈ l, ∀ t ∈ l, s.length = t.length := by
  obtain ⟨m1, m2⟩ := most_max l
  obtain ⟨n1, n2⟩ := least_min l
  unfold pureC
  simp only [Bool.or_eq_true, decide_eq_true_eq]
  constructor
  · rintro (h | h) s hs t ht
    · have := m1 s hs; have := h8 s hs; omega
    · have := m1 s hs; have := m1 t ht; have := n1 s hs; have := n1 t ht; omega
  · intro h
    rcases m2 with m2 | ⟨s, hs, m2⟩
    · exact .inl m2
    · right
      rcases n2 with n2 | ⟨t, ht, n2⟩
      · have := n1 s hs; have := h8 s hs; omega
      · rw [m2, n2, h s hs t ht]
theorem sizeP_iff {l : Cx} : sizeP l = true ↔ ∀ s ∈ l, ∀ t ∈ l, s.length = t.length := by
  unfold sizeP
  rw [List.all_eq_true]
  simp only [List.mem_range, Bool.or_eq_true, decide_eq_true_eq]
  constructor
  · intro h
    have key : ∀ n, n ≤ l.length → 0 < n → ∀ (h0 : 0 < l.length), dimC (l.take n) = (l[0].length : Int) - 1 ∧ ∀ (i : Nat) (hi : i < l.length), i < n → l[i].length = l[0].length := by
      intro n
      induction n with
      | zero => intro _ h; omega
      | succ n ih =>
        intro hn _ h0
        by_cases hz : n = 0
        · subst hz
          refine ⟨?_, fun i hi hi1 => ?_⟩
          · rw [dimC_snoc (by omega)]
            simp [dimC]; omega
          · have : i = 0 := by omega
            subst this; rfl
        · obtain ⟨h1, h2⟩ := ih (by omega) (by omega) h0
          have h3 := h n (by omega)
          rcases h3 with h3 | h3
          · omega
          · rw [getD_at (by omega), h1] at h3
            refine ⟨?_, fun i hi hi1 => ?_⟩
            · rw [dimC_snoc (by omega), h1, h3, if_neg (by omega)]
            · by_cases hin : i = n
              · subst hin; omega
              · exact h2 i hi (by omega)
    intro s hs t ht
    obtain ⟨i, hi, rfl⟩ := List.getElem_of_mem hs
    obtain ⟨j, hj, rfl⟩ := List.getElem_of_mem ht
    obtain ⟨_, h2⟩ := key l.length (Nat.le_refl _) (by omega) (by omega)
    rw [h2 i hi hi, h2 j hj hj]
  · intro h i hi
    by_cases hz : i = 0
    · exact .inl hz
    · right
      rw [getD_at hi, ← most_dim]
      obtain ⟨m1, m2⟩ := most_max (l.take i)
      have h0 : l[0]'(by omega) ∈ l.take i := by rw [List.mem_take_iff_getElem]; exact ⟨0, by omega, rfl⟩
      rcases m2 with m2 | ⟨t, ht, m2⟩
      · have h1 := m1 _ h0
        have h2 := h l[i] (List.getElem_mem hi) (l[0]'(by omega)) (List.getElem_mem _)
        rw [m2]; omega
      · have h2 := h l[i] (List.getElem_mem hi) t (List.mem_of_mem_take ht)
        rw [m2, h2]
theorem pure_size {l : Cx} (h : ∀ s ∈ l, chkV s = 0) : pureC l = sizeP l := by
  rw [Bool.eq_iff_iff, pureC_iff (fun s hs => by have := chkV_zero.1 (h s hs); omega), sizeP_iff]
end Go.Proofs.YtkedmlandjlogaaGreat
namespace Go.Proofs.YtkedmlandjlogaaGreat
open Go.RowKit
set_option linter.unusedSimpArgs false

set_option maxHeartbeats 2000000
set_option maxRecDepth 100000
theorem cloneV_p (xs : List Vx) (hl : xs.length ≤ 1000) : Fn Tryz.prog 140 [dS Verts xs] (dS Verts xs) := by
  (refine Fn.intro1 Tryz.func140 rfl rfl ?_; simp only [Tryz.ntmps140, List.length_cons, List.length_nil, Nat.reduceAdd, Nat.reduceSub, List.replicate_succ, List.replicate_zero, List.cons_append, List.nil_append])
  ((repeat' (first |  (refine WL.openE 4 rfl fun b hb => ?_; dsimp only [z0, z1]) | (apply WL.opG; (focus (apply SYG.yes; (exact want_none rfl); (first | (apply SY.move <;> (exact oD)) | (apply SY.assign <;> (exact oD))))); dsimp only [setD, z0, z1]) | refine WL.nil ?_ | refine WC.seqK fun Kx hK => ?_ | (refine hK _ _ ?_; clear hK) | refine WC.region ?_ |  (apply WL.build0K elV RV (by decide); (intro _; dsimp only [setD, z0, z1]); all_goals (try infer_instance)) | ((first | apply WL.appK | apply WL.app1); (exact eD); exact OpD.t rfl; (exact oD); decide; (exact lD); (intro _; dsimp only [setD, z0, z1]); all_goals (try infer_instance)) | (apply WL.opG; (focus (apply SYG.yes; (exact want_none rfl); ((first | (apply SY.eqNil; exact OpD.t rfl; (exact fun _ _ _ h => nil_K h); exact len_K; exact eqNilV) | fail); all_goals infer_instance))); dsimp only [setD, z0, z1]) | (apply WC.cond; (exact oD); (all_goals intro h); (all_goals try (exfalso; first | omega | contradiction))) | refine WC.skip ?_ | refine WC.ret ?_ | refine ThenD.r ?_)); all_goals (first | refine WC.id ?_ | refine WL.id ?_ | refine WDs.id ?_ | ((repeat clear hK); (repeat clear Kx))))
  · rw [hb h]; (refine ⟨trivial, _, rfl, ?_⟩; (first | exact fD | refine FinD.i ?_ | refine FinD.b ?_ | refine FinD.rowKE (.head _) ?_ | refine FinD.rowE (.head _) ?_ | refine FinD.nilKE (by decide) ?_ | refine FinD.nilE ?_ | refine FinD.s ?_))
  · rw [List.nil_append]; (refine ⟨trivial, _, rfl, ?_⟩; (first | exact fD | refine FinD.i ?_ | refine FinD.b ?_ | refine FinD.rowKE (.head _) ?_ | refine FinD.rowE (.head _) ?_ | refine FinD.nilKE (by decide) ?_ | refine FinD.nilE ?_ | refine FinD.s ?_))
theorem ok_vx {s : List Vx} (h : chkV s = 0) : ∀ v ∈ s, okV v := fun v hv => by
  have := rngV_iff.1 ((chkV_zero.1 h).2.2.1 v hv)
  unfold okV is64
  omega
theorem contI_nodup {l : Cx} : ∀ n, n ≤ l.length → ((incC (l.take n)).map (·.1)).Nodup ∧ ∀ v, v ∈ (incC (l.take n)).map (·.1) → ∃ s ∈ l, v ∈ s := by
  have put : ∀ (m : List (Vx × List Int)) (v : Vx) (i : Int), (m.map (·.1)).Nodup → ((addI m v i).map (·.1)).Nodup ∧ ∀ u, u ∈ (addI m v i).map (·.1) → u = v ∨ u ∈ m.map (·.1) := by
    intro m v i hm
    unfold addI putM
    split
    · rename_i h
      have e : (m.map fun p => if p.1 = v then (v, (lookM m v).getD [] ++ [i]) else p).map (·.1) = m.map (·.1) := by
        rw [List.map_map]
        refine List.map_congr_left fun p _ => ?_
        show (if p.1 = v then (v, (lookM m v).getD [] ++ [i]) else p).1 = p.1
        split
        · rename_i h; exact h.symm
        · rfl
      rw [e]
      exact ⟨hm, fun u hu => .inr hu⟩
    · rename_i h
      rw [List.map_append]
      refine ⟨?_, fun u hu => ?_⟩
      · rw [List.nodup_append]
        refine ⟨hm, by simp, fun a ha b hb => ?_⟩
        have : b = v := by simpa using hb
        subst this
        intro hab
        subst hab
        obtain ⟨p, hp, hpv⟩ := List.mem_map.1 ha
        apply h
        unfold lookM
        rw [Option.isSome_map]
        rw [List.find?_isSome]
        exact ⟨p, hp, by simpa using hpv⟩
      · rcases List.mem_append.1 hu with hu | hu
        · exact .inr hu
        · exact .inl (by simpa using hu)
  have all : ∀ (s : List Vx) (m : List (Vx × List Int)) (i : Int), (m.map (·.1)).Nodup → ((incS m s i).map (·.1)).Nodup ∧ ∀ u, u ∈ (incS m s i).map (·.1) → u ∈ s ∨ u ∈ m.map (·.1) := by
    intro s
    induction s with
    | nil => intro m i hm; exact ⟨hm, fun u hu => .inr hu⟩
    | cons v s ih =>
      intro m i hm
      obtain ⟨h1, h2⟩ := put m v i hm
      obtain ⟨h3, h4⟩ := ih (addI m v i) i h1
      refine ⟨h3, fun u hu => ?_⟩
      rcases h4 u hu with h | h
      · exact .inl (by simp [h])
      · rcases h2 u h with h | h
        · exact .inl (by simp [h])
        · exact .inr h
  intro n
  induction n with
  | zero => intro _; exact ⟨by simp [incC], fun v hv => by simp [incC] at hv⟩
  | succ n ih =>
    intro hn
    obtain ⟨h1, h2⟩ := ih (by omega)
    rw [incC_snoc (by omega)]
    obtain ⟨h3, h4⟩ := all l[n] (incC (l.take n)) (n : Int) h1
    refine ⟨h3, fun v hv => ?_⟩
    rcases h4 v hv with h | h
    · exact ⟨l[n], List.getElem_mem _, h⟩
    · exact h2 v h
theorem incC_nodup (l : Cx) : ((incC l).map (·.1)).Nodup := by
  have := (contI_nodup (l := l) l.length (Nat.le_refl _)).1
  rwa [List.take_length] at this
theorem incC_ok {l : Cx} (h : ∀ s ∈ l, chkV s = 0) : ∀ p ∈ incC l, okV p.1 := fun p hp => by
  have := (contI_nodup (l := l) l.length (Nat.le_refl _)).2 p.1
  rw [List.take_length] at this
  obtain ⟨s, hs, hv⟩ := this (List.mem_map_of_mem hp)
  exact ok_vx (h s hs) _ hv
theorem isKV {x : Vx} : IsV (dS RV x) (kvV x) := ⟨fun _ _ _ h => h⟩
theorem pos_chk {s : List Vx} (h : chkV s = 0) : 0 < s.length := by have := chkV_zero.1 h; omega
theorem len_chk {s : List Vx} (h : chkV s = 0) : s.length ≤ 8 := by have := chkV_zero.1 h; omega
set_option maxHeartbeats 4000000 in
theorem complexOf_p (l : Cx) (hg : ∀ s ∈ l, chkV s = 0) (hl : l.length ≤ 1000000) : Fn Tryz.prog 79 [dS Simps l] (dS Cpx (maxC l)) := by
  (refine Fn.introC1 tyC Tryz.func79 rfl rfl ?_; simp only [Tryz.ntmps79, List.length_cons, List.length_nil, Nat.reduceAdd, Nat.reduceSub, List.replicate_succ, List.replicate_zero, List.cons_append, List.nil_append])
  ((repeat' (first | ((first | apply WL.opG | apply WD.op); (focus (apply SYG.yes; (exact want_none rfl); (first | (apply SY.move <;> (exact oD)) | (apply SY.assign <;> (exact oD)) | (apply SY.load; (exact tD); (exact OpD.t rfl))))); dsimp only [setD, z0, z1]) | refine WL.nil ?_ | refine WC.seqK fun Kx hK => ?_ | (refine hK _ _ ?_; clear hK) | refine WC.region ?_ |  (refine WL.alloc tzC (shape_C0 rfl) fun b2 => ?_; dsimp only [setD, z0, z1]) |  (refine WL.callC (hp1 := []) (caps := []) (clone_s l hl) Tryz.call80 OpD.f (by (exact aD)) ?_; rintro d' hp2 ⟨v, rfl, rfl⟩; dsimp only [setD, z0, z1, List.cons_append, List.nil_append]) |  (apply WL.sortS; exact OpD.t rfl; omega; intro ys hperm hsort; dsimp only [setD, z0, z1]))); all_goals (first | refine WC.id ?_ | refine WL.id ?_ | refine WDs.id ?_ | ((repeat clear hK); (repeat clear Kx))))
  refine WL.callC (hp1 := [_]) (caps := []) (compact_s ys v hsort (by rw [hperm.length_eq]; omega)) Tryz.call143 OpD.f (ArgsD.cons (OpD.t rfl) (ArgsD.cons ⟨le_fun Tryz.call144 fun x : List Vx × List Vx => eqV_p x.1 x.2⟩ ArgsD.nil)) ?_
  rintro d' hp2 ⟨v2, zs, hzs, rfl, rfl⟩
  dsimp only [setD, z0, z1, List.cons_append, List.nil_append]
  ((repeat' (first | ((first | apply WL.opG | apply WD.op); (focus (apply SYG.yes; (exact want_none rfl); (first | (apply SY.move <;> (exact oD)) | (apply SY.assign <;> (exact oD)) | (apply SY.load; (exact tD); (exact OpD.t rfl))))); dsimp only [setD, z0, z1]) | refine WL.nil ?_ | refine WC.seqK fun Kx hK => ?_ | (refine hK _ _ ?_; clear hK) | refine WC.region ?_)); all_goals (first | refine WC.id ?_ | refine WL.id ?_ | refine WDs.id ?_ | ((repeat clear hK); (repeat clear Kx))))
  refine WL.keep2 (s := 0) (t := 13) rfl rfl ?_
  dsimp only [z0, z1]
  have hzg : ∀ s ∈ zs, chkV s = 0 := fun s hs => hg s (hperm.mem_iff.1 ((hzs.2 s).1 hs))
  have hzl : zs.length ≤ 1000000 := by
    have h1 := hperm.length_eq
    have h2 : zs.length ≤ ys.length := List.Nodup.length_le_of_subset hzs.1.nodup fun x hx => (hzs.2 x).1 hx
    omega
  ((repeat' (first | ((first | apply WL.opG | apply WD.op); (focus (apply SYG.yes; (exact want_none rfl); (first | (apply SY.move <;> (exact oD)) | (apply SY.assign <;> (exact oD)) | (apply SY.load; (exact tD); (exact OpD.t rfl))))); dsimp only [setD, z0, z1]) | refine WL.nil ?_ | refine WC.seqK fun Kx hK => ?_ | (refine hK _ _ ?_; clear hK) | refine WC.region ?_ |  (refine WL.alloc tzC (shape_C0 rfl) fun b4 => ?_; dsimp only [setD, z0, z1]) | ((first | apply WL.opG | apply WD.op); (focus (apply SYG.yes; (exact want_none rfl); ((first | (apply SY.call (incidence_p zs hzl (fun s hs => ok_vx (hzg s hs)) (fun s hs => Nat.le_trans (len_chk (hzg s hs)) (by decide))) Tryz.call81; (exact aD)) | exact yLen | fail); all_goals infer_instance))); dsimp only [setD, z0, z1]) | refine WC.block ?_)); all_goals (first | refine WC.id ?_ | refine WL.id ?_ | refine WDs.id ?_ | ((repeat clear hK); (repeat clear Kx))))
  have hgood : zs.filter (fun s => !coveredC zs s) = maxC l := maxC_eq (fun s hs => pos_chk (hg s hs)) hzs.1 fun u => (hzs.2 u).trans hperm.mem_iff
  refine WC.nilRow 32 Verts ?_
  (refine WC.loopU (X := Nat × Value × Cx) (fun x => [(17, dI (x.1 : Int)), (6, dA), (18, dA), (19, dA), (20, dA), (21, dA), (22, dA), (23, dA), (24, dA), (25, dA), (26, dA), (27, dA), (28, dA), (29, dA), (30, dA), (31, dA), (32, dA), (33, dA), (34, dA), (35, dA), (36, dA), (37, dA)]) (fun x => (hRow x.2.1 32 Verts x.2.2 :: hC1 b4 24 x.2.1 :: hCell b2 24 1 true (dX (.agg #[.slice none 0 0])) :: [])) (fun x => zs.length - x.1) (fun x => x.1 ≤ zs.length ∧ x.2.2 = (zs.take x.1).filter (fun s => !coveredC zs s)) (0, .slice none 0 0, []) ?start ?frame0 ?objs0 ?round)
  case start => exact ⟨Nat.zero_le _, by simp⟩
  case frame0 => ((try dsimp only [upds, z0, z1]); repeat (first | exact LeF.nil | refine LeF.cons (by first | with_reducible exact Dat.le_any _ | with_reducible exact Dat.le_refl _ | exact le_ii (by omega) | exact Dat.le_nil | exact Dat.le_nilK (by decide) | assumption | exact Dat.le_refl _ | exact le_eq (by simp)) ?_))
  case objs0 => rfl
  case round =>
    rintro ⟨k, v, o⟩ ⟨h1, h2⟩
    simp only at h1 h2
    have hol : o.length ≤ 1000000 := by
      have h3 := List.length_filter_le (fun s => !coveredC zs s) (zs.take k)
      rw [List.length_take, ← h2] at h3
      omega
    dsimp only [upds, z0, z1]
    ((repeat' (first |  (apply WC.drawTail 5; kernel_rfl; kernel_rfl; simp only [List.take_succ_cons, List.take_zero, List.drop_succ_cons, List.drop_zero]) | ((first | apply WL.opG | apply WD.op); (focus (apply SYG.yes; (exact want_none rfl); (first | (apply SY.move <;> (exact oD)) | (apply SY.assign <;> (exact oD)) | (apply SY.load; (exact tD); (exact OpD.t rfl))))); dsimp only [setD, z0, z1]) | refine WL.nil ?_ | refine WD.nil ?_ | refine WC.seqK fun Kx hK => ?_ | (refine hK _ _ ?_; clear hK) | (refine Kont.skip ?_; clear hK) | refine WC.region ?_ |  (refine WL.perm (List.Perm.swap _ _ _) ?_; refine WL.storeC1 tySS (OpD.t rfl) (OpD.t rfl) (.head _) ?_; refine WL.perm (List.Perm.swap _ _ _) ?_; dsimp only [setD, z0, z1]) | ((first | apply WL.appK | apply WL.app1); (exact eD); exact OpD.t rfl; (exact oD); decide; (exact lD); (intro _; dsimp only [setD, z0, z1]); all_goals (try infer_instance)) | ((first | apply WL.opG | apply WD.op); (focus (apply SYG.yes; (exact want_none rfl); ((first | (apply SY.ixKJ elV (OpD.t rfl) OpD.i 0 rfl; exact pos_chk (hzg _ (List.getElem_mem _))) | (refine SY.lookR (a0 := ([] : List Int)) mapT_inc keyT_V (OpD.t rfl) (OpD.t rfl) isKV (ok_vx (hzg _ (List.getElem_mem _)) _ (List.getElem_mem _)) (incC_ok hzg) (incC_nodup zs) (fun _ _ => Arr.nil')) | (apply SY.call (coveredP_p _ _ _ atM_bnd) Tryz.call94; (exact aD)) | (apply SY.fldX cpxT; exact OpD.t rfl) | (apply SY.loadC1 tySS; exact OpD.t rfl; exact .tail _ (.head _)) | (apply SY.call (cloneV_p _ (Nat.le_trans (len_chk (hzg _ (List.getElem_mem _))) (by decide))) Tryz.call140; (exact aD)) | exact yLss | exact yNot | exact yAdd | exact yIndexaddr | exact yBuildslice | fail); all_goals infer_instance))); dsimp only [setD, z0, z1]) | (apply WC.condD; (exact oD); (all_goals intro h); (all_goals try (exfalso; first | omega | contradiction))) | (apply WC.condNB; (exact oD); (all_goals intro h); (all_goals try (exfalso; first | omega | contradiction))) | refine WC.skip ?_ | refine WC.exit ?_ | refine WC.block ?_ | refine ThenD.n ?_)); all_goals (first | refine WC.id ?_ | refine WL.id ?_ | refine WDs.id ?_ | ((repeat clear hK); (repeat clear Kx))))
    · rename_i h0 v'
      rw [anyCov hzg (hzg _ (List.getElem_mem (show k < zs.length by omega))) (List.getElem_mem _)] at h
      (refine ⟨(k + 1, v', o ++ [zs[k]]), ?_, by first | omega | (simp only; omega), rfl, ?_⟩; rotate_left; ((try dsimp only [upds, z0, z1]); repeat (first | exact LeF.nil | refine LeF.cons (by first | with_reducible exact Dat.le_any _ | with_reducible exact Dat.le_refl _ | exact le_ii (by omega) | exact Dat.le_nil | exact Dat.le_nilK (by decide) | assumption | exact Dat.le_refl _ | exact le_eq (by simp)) ?_)); (try dsimp only))
      refine ⟨by omega, ?_⟩
      show o ++ _ = _
      rw [filt_snoc (by omega), if_pos (by rw [h]; rfl), h2]
    · rw [anyCov hzg (hzg _ (List.getElem_mem (show k < zs.length by omega))) (List.getElem_mem _)] at h
      (refine ⟨(k + 1, v, o), ?_, by first | omega | (simp only; omega), rfl, ?_⟩; rotate_left; ((try dsimp only [upds, z0, z1]); repeat (first | exact LeF.nil | refine LeF.cons (by first | with_reducible exact Dat.le_any _ | with_reducible exact Dat.le_refl _ | exact le_ii (by omega) | exact Dat.le_nil | exact Dat.le_nilK (by decide) | assumption | exact Dat.le_refl _ | exact le_eq (by simp)) ?_)); (try dsimp only))
      refine ⟨by omega, ?_⟩
      show o = _
      rw [filt_snoc (by omega), if_neg (by rw [h]; decide), h2, List.append_nil]
    · rw [List.take_of_length_le (by omega), hgood] at h2
      subst h2
      refine WL.knowRow (.head _) _root_.id fun hv => ?_
      obtain ⟨ad, c, rfl⟩ := hv
      ((repeat' (first | refine WL.nil ?_ | (refine hK _ _ ?_; clear hK) |  (apply WL.storeF3 tyC; rfl; exact OpD.t rfl; exact shape_C0 rfl; dsimp only [setD, z0, z1]) | ((first | apply WL.opG | apply WD.op); (focus (apply SYG.yes; (exact want_none rfl); ((first | (apply SY.loadH tyC; exact OpD.t rfl; exact .tail _ (.head _)) | fail); all_goals infer_instance))); dsimp only [setD, z0, z1]) | refine WC.ret ?_)); all_goals (first | refine WC.id ?_ | refine WL.id ?_ | refine WDs.id ?_ | ((repeat clear hK); (repeat clear Kx))))
      exact ⟨trivial, _, rfl, FinD.rowC (.head _)⟩
end Go.Proofs.YtkedmlandjlogaaGreat
