/-
  Part 30 of the texts that the claims of this seat lean on: walks of the program's functions by contracts over symbolic frames, and plain laws of what they compute. No condition.
-/
import Derived.Laws.IdiomRangeMap
import Derived.Test.YtkedmlandjlogaaGreatVb18
import Derived.Test.YtkedmlandjlogaaGreatVb21
import Derived.Test.YtkedmlandjlogaaGreatVb22
import Derived.Test.YtkedmlandjlogaaGreatVb29
set_option linter.unusedVariables false
set_option linter.unusedSimpArgs false
set_option linter.unusedSectionVars false
namespace Go.Proofs.YtkedmlandjlogaaGreat
open Go.RowKit
set_option linter.unusedSimpArgs false

set_option maxHeartbeats 2000000
set_option maxRecDepth 100000
def uniC (a b : Cx) : Cx × Int := if twoC a b ≠ 0 then ([], twoC a b) else limC (maxC (a ++ b))
theorem two_good27 {a b : Cx} (h : twoC a b = 0) : GoodX a ∧ GoodX b := by
  unfold twoC at h
  by_cases h1 : chkC a ≠ 0
  · rw [if_pos h1] at h; exact absurd h h1
  · rw [if_neg h1] at h; exact ⟨goodX_iff.1 (by omega), goodX_iff.1 h⟩
set_option maxHeartbeats 4000000 in
theorem union27_p (a b : Cx) : Fn Tryz.prog 44 [dS Cpx a, dS Cpx b] (dT [dS Cpx (uniC a b).1, dI (uniC a b).2]) := by
  (refine Fn.introC2 tyC Tryz.func44 rfl rfl ?_; simp only [Tryz.ntmps44, List.length_cons, List.length_nil, Nat.reduceAdd, Nat.reduceSub, List.replicate_succ, List.replicate_zero, List.cons_append, List.nil_append])
  by_cases h0 : twoC a b = 0
  · obtain ⟨ga, gb⟩ := two_good27 h0
    have hg : ∀ s ∈ a ++ b, chkV s = 0 := fun s hs => (List.mem_append.1 hs).elim (ga.2.2.1 s) (gb.2.2.1 s)
    have hla := ga.1
    have hlb := gb.1
    have hl : (a ++ b).length ≤ 1000000 := by rw [List.length_append]; omega
    have e : uniC a b = limC (maxC (a ++ b)) := by unfold uniC; rw [if_neg (by omega)]
    have hcl := clone_s a (by omega)
    have hlm := limited27_p (a ++ b) hg hl
    ((repeat' (first |  (refine WC.drawM (fun _ => True) 5 6 [(0, false), (1, false), (3, false), (4, false), (2, true)] [true, true, true, true, true, false, false, false, false, false, false] (by kernel_rfl) (by kernel_rfl) (by kernel_rfl) rfl (trivial) ?_) |  (first | refine WA.one (S := [true, true, true, true, true, false, false, false, false, false, false]) (i := 5) (by kernel_rfl) rfl ?_ | refine WA.one (S := [true, true, true, true, true, true, false, false, false, false, false]) (i := 6) (by kernel_rfl) rfl ?_ | refine WA.two (S := [true, true, true, true, true, true, true, false, false, false, false]) (i := 7) (j := 8) (by kernel_rfl) rfl rfl ?_ ?_ | refine WA.one (S := [true, true, true, true, true, true, true, false, true, false, false]) (i := 7) (by kernel_rfl) rfl ?_ | refine WA.one (S := [true, true, true, true, true, true, true, true, true, false, false]) (i := 9) (by kernel_rfl) rfl ?_ | refine WA.one (S := [true, true, true, true, true, true, true, true, true, true, false]) (i := 10) (by kernel_rfl) rfl ?_ | refine WA.nil (S := [true, true, true, true, true, true, true, true, true, true, true]) (by kernel_rfl) ?_ | refine WA.one (S := [true, true, true, true, true, true, true, true, false, false, false]) (i := 8) (by kernel_rfl) rfl ?_) |  (refine WM.writeL rfl (SW.callC (hp1 := []) (caps := []) (β := Value) (H := fun v => [hRow v 32 Verts a]) (D := dX) hcl Tryz.call80 OpD.f (ArgsD.cons (OpD.t rfl) ArgsD.nil) (fun d hp2 ⟨v, h1, h2⟩ => ⟨v, h1, h2⟩)) (fun _ => trivial) fun v => ?_; dsimp only [setD, z0, z1, List.cons_append, List.nil_append]) | (refine WM.nil ?_) | (apply WM.readL rfl; (focus (intro c hcc; apply SYG.yes; (exact want_none rfl); ((first | (apply SY.fldC cpxT; exact OpD.t rfl) | exact yLoad | fail); all_goals infer_instance))); dsimp only [setD, z0, z1]) | ((first | apply WL.opG | apply WD.op); (focus (apply SYG.yes; (exact want_none rfl); (first | (apply SY.move <;> (exact oD)) | (apply SY.assign <;> (exact oD)) | (apply SY.load; (exact tD); (exact OpD.t rfl))))); dsimp only [setD, z0, z1]) | refine WL.nil ?_ | refine WC.seqK fun Kx hK => ?_ | (refine hK _ _ ?_; clear hK) | refine WC.region ?_ |  (refine WL.keep1 (s := 19) rfl ?_; dsimp only [z0, z1]) | ((first | apply WL.appK | apply WL.app1); (exact eD); exact OpD.t rfl; (exact oD); decide; (exact lD); (intro _; dsimp only [setD, z0, z1]); all_goals (try infer_instance)) | (apply WL.alloc; (first | exact tzV | exact tzC); (first | exact shape_X rfl | exact shape_XV | exact shape_C0 rfl); (intro _; dsimp only [setD, z0, z1])) | (apply WL.storeF; (exact tD); rfl; (exact oD); (exact hD); dsimp only [setD, z0, z1]) | ((first | apply WL.opG | apply WD.op); (focus (apply SYG.yes; (exact want_none rfl); ((first | (apply SY.call (both27_p _ _) Tryz.call78; (exact aD)) | (apply SY.call (hlm) Tryz.call110; (exact aD)) | exact yNeq | exact yExtract | exact yBox | fail); all_goals infer_instance))); dsimp only [setD, z0, z1]) | (apply WC.condN; (exact oD); (all_goals intro h); (all_goals try (exfalso; first | omega | contradiction))) | refine WC.skip ?_ | refine WC.ret ?_)); all_goals (first | refine WC.id ?_ | refine WL.id ?_ | refine WDs.id ?_ | ((repeat clear hK); (repeat clear Kx))))
    all_goals (rw [e]; (refine ⟨trivial, ⟨_, rfl, ?_⟩, _, rfl, ?_⟩ <;> (first | exact fD | refine FinD.i ?_ | refine FinD.b ?_ | refine FinD.rowKE (.head _) ?_ | refine FinD.rowE (.head _) ?_ | refine FinD.nilKE (by decide) ?_ | refine FinD.nilE ?_ | refine FinD.s ?_)))
  · have e : uniC a b = ([], twoC a b) := by unfold uniC; rw [if_pos h0]
    ((repeat' (first | ((first | apply WL.opG | apply WD.op); (focus (apply SYG.yes; (exact want_none rfl); (first | (apply SY.move <;> (exact oD)) | (apply SY.assign <;> (exact oD)) | (apply SY.load; (exact tD); (exact OpD.t rfl))))); dsimp only [setD, z0, z1]) | refine WL.nil ?_ | refine WC.seqK fun Kx hK => ?_ | (refine hK _ _ ?_; clear hK) | refine WC.region ?_ | (apply WL.alloc; (first | exact tzV | exact tzC); (first | exact shape_X rfl | exact shape_XV | exact shape_C0 rfl); (intro _; dsimp only [setD, z0, z1])) | (apply WL.storeF; (exact tD); rfl; (exact oD); (exact hD); dsimp only [setD, z0, z1]) | ((first | apply WL.opG | apply WD.op); (focus (apply SYG.yes; (exact want_none rfl); ((first | (apply SY.call (both27_p _ _) Tryz.call78; (exact aD)) | exact yNeq | exact yBuild | exact yBox | fail); all_goals infer_instance))); dsimp only [setD, z0, z1]) | (apply WC.condN; (exact oD); (all_goals intro h); (all_goals try (exfalso; first | omega | contradiction))) | refine WC.ret ?_ | refine ThenD.r ?_)); all_goals (first | refine WC.id ?_ | refine WL.id ?_ | refine WDs.id ?_ | ((repeat clear hK); (repeat clear Kx))))
    all_goals (rw [e]; (refine ⟨trivial, ⟨_, rfl, ?_⟩, _, rfl, ?_⟩ <;> (first | exact fD | refine FinD.i ?_ | refine FinD.b ?_ | refine FinD.rowKE (.head _) ?_ | refine FinD.rowE (.head _) ?_ | refine FinD.nilKE (by decide) ?_ | refine FinD.nilE ?_ | refine FinD.s ?_)))
theorem meet1_p (v : Vx) (s : List Vx) : Fn Tryz.prog 111 ([dS RV v] ++ [dP 1 false (dS Verts s)]) (dB (decide (v ∈ s))) := by
  show Fn Tryz.prog 111 [dS RV v, dP 1 false (dS Verts s)] _
  (refine Fn.intro1 Tryz.func111 rfl rfl ?_; simp only [Tryz.ntmps111, List.length_cons, List.length_nil, Nat.reduceAdd, Nat.reduceSub, List.replicate_succ, List.replicate_zero, List.cons_append, List.nil_append])
  ((repeat' (first | (apply WL.opG; (focus (apply SYG.yes; (exact want_none rfl); (first | (apply SY.assign <;> (exact oD)) | (apply SY.load; (exact tD); (exact OpD.t rfl))))); dsimp only [setD, z0, z1]) | refine WL.nil ?_ | refine WC.seqK fun Kx hK => ?_ | (refine hK _ _ ?_; clear hK) | refine WC.region ?_ | (apply WL.opG; (focus (apply SYG.yes; (exact want_none rfl); ((first | (apply SY.call (cnt_p _ _) Tryz.call73; (exact aD)) | exact yBox | fail); all_goals infer_instance))); dsimp only [setD, z0, z1]) | refine WC.ret ?_)); all_goals (first | refine WC.id ?_ | refine WL.id ?_ | refine WDs.id ?_ | ((repeat clear hK); (repeat clear Kx))))
  all_goals (refine ⟨trivial, _, rfl, ?_⟩; (first | exact fD | refine FinD.i ?_ | refine FinD.b ?_ | refine FinD.rowKE (.head _) ?_ | refine FinD.rowE (.head _) ?_ | refine FinD.nilKE (by decide) ?_ | refine FinD.nilE ?_ | refine FinD.s ?_))
theorem map_snoc' {α β : Type} {f : α → β} {l : List α} {k : Nat} (h : k < l.length) : (l.take (k + 1)).map f = (l.take k).map f ++ [f l[k]] := by rw [take_snoc' h, List.map_append]; rfl
def meetC27 (a b : Cx) : Cx := (a.map fun s => eachC (fun v => decide (v ∈ s)) b).flatten
def meetP (a b : Cx) : Cx × Int := if twoC a b ≠ 0 then ([], twoC a b) else if 65536 < a.length * b.length then ([], 17) else limC (maxC (meetC27 a b))
theorem each_len (p : Vx → Bool) (l : Cx) : (eachC p l).length ≤ l.length := by
  unfold eachC
  have h1 := List.length_filter_le (fun s : List Vx => decide (0 < s.length)) (l.map fun f => f.filter p)
  rwa [List.length_map] at h1
theorem meetC_snoc {a b : Cx} {k : Nat} (h : k < a.length) : meetC27 (a.take (k + 1)) b = meetC27 (a.take k) b ++ eachC (fun v => decide (v ∈ a[k])) b := by
  unfold meetC27
  rw [map_snoc' h]
  simp
theorem meetC_len (a b : Cx) : ∀ k, k ≤ a.length → (meetC27 (a.take k) b).length ≤ k * b.length
  | 0, _ => by simp [meetC27]
  | k + 1, h => by
    rw [meetC_snoc (by omega), List.length_append, Nat.succ_mul]
    have := meetC_len a b k (by omega)
    have := each_len (fun v => decide (v ∈ a[k])) b
    omega
theorem meetC_good {a b : Cx} (h : ∀ s ∈ b, chkV s = 0) : ∀ s ∈ meetC27 a b, chkV s = 0 := fun s hs => by
  unfold meetC27 at hs
  obtain ⟨l, hl, hs⟩ := List.mem_flatten.1 hs
  obtain ⟨f, _, rfl⟩ := List.mem_map.1 hl
  exact each_good h s hs
theorem tzL : TyZ Tryz.prog 32 (.slice none 0 0) := ⟨by kernel_rfl⟩
set_option maxHeartbeats 2000000 in
theorem meet27_p (a b : Cx) : Fn Tryz.prog 46 [dS Cpx a, dS Cpx b] (dT [dS Cpx (meetP a b).1, dI (meetP a b).2]) := by
  (refine Fn.introC2 tyC Tryz.func46 rfl rfl ?_; simp only [Tryz.ntmps46, List.length_cons, List.length_nil, Nat.reduceAdd, Nat.reduceSub, List.replicate_succ, List.replicate_zero, List.cons_append, List.nil_append])
  by_cases h0 : twoC a b = 0
  · obtain ⟨ga, gb⟩ := two_good27 h0
    have hla := ga.1
    have hlb := gb.1
    have hmul : a.length * b.length ≤ 4096 * 4096 := Nat.mul_le_mul hla hlb
    have hmI : ((a.length : Int) * b.length) = ((a.length * b.length : Nat) : Int) := by simp
    by_cases hb : 65536 < a.length * b.length
    · have e : meetP a b = ([], 17) := by unfold meetP; rw [if_neg (by omega), if_pos hb]
      ((repeat' (first | (apply WL.opG; (focus (apply SYG.yes; (exact want_none rfl); (first | (apply SY.move <;> (exact oD)) | (apply SY.assign <;> (exact oD)) | (apply SY.load; (exact tD); (exact OpD.t rfl))))); dsimp only [setD, z0, z1]) | refine WL.nil ?_ | refine WC.seqK fun Kx hK => ?_ | (refine hK _ _ ?_; clear hK) | refine WC.region ?_ | (apply WL.alloc; (first | exact tzV | exact tzC); (first | exact shape_X rfl | exact shape_XV | exact shape_C0 rfl); (intro _; dsimp only [setD, z0, z1])) | (apply WL.storeF; (exact tD); rfl; (exact oD); (exact hD); dsimp only [setD, z0, z1]) | (apply WL.opG; (focus (apply SYG.yes; (exact want_none rfl); ((first | (apply SY.call (both27_p _ _) Tryz.call78; (exact aD)) | (apply SY.mul; exact OpD.t rfl; exact OpD.t rfl; (rw [hmI]; omega)) | exact yGtr | exact yNeq | exact yLen | exact yFieldaddr | exact yBuild | exact yBox | fail); all_goals infer_instance))); dsimp only [setD, z0, z1]) | (apply WC.condD; (exact oD); (all_goals intro h); (all_goals try (exfalso; first | omega | contradiction))) | (apply WC.condN; (exact oD); (all_goals intro h); (all_goals try (exfalso; first | omega | contradiction))) | refine WC.skip ?_ | refine WC.ret ?_ | refine ThenD.r ?_)); all_goals (first | refine WC.id ?_ | refine WL.id ?_ | refine WDs.id ?_ | ((repeat clear hK); (repeat clear Kx))))
      all_goals first | (rw [e]; (refine ⟨trivial, ⟨_, rfl, ?_⟩, _, rfl, ?_⟩ <;> (first | exact fD | refine FinD.i ?_ | refine FinD.b ?_ | refine FinD.rowKE (.head _) ?_ | refine FinD.rowE (.head _) ?_ | refine FinD.nilKE (by decide) ?_ | refine FinD.nilE ?_ | refine FinD.s ?_)); done) | (exfalso; rename_i hq; rw [hmI] at hq; omega)
    · have e : meetP a b = limC (maxC (meetC27 a b)) := by unfold meetP; rw [if_neg (by omega), if_neg hb]
      ((repeat' (first | (apply WL.opG; (focus (apply SYG.yes; (exact want_none rfl); (first | (apply SY.move <;> (exact oD)) | (apply SY.assign <;> (exact oD)) | (apply SY.load; (exact tD); (exact OpD.t rfl))))); dsimp only [setD, z0, z1]) | refine WL.nil ?_ | refine WC.seqK fun Kx hK => ?_ | (refine hK _ _ ?_; clear hK) | refine WC.region ?_ | (apply WL.alloc; (first | exact tzV | exact tzC); (first | exact shape_X rfl | exact shape_XV | exact shape_C0 rfl); (intro _; dsimp only [setD, z0, z1])) | (apply WL.opG; (focus (apply SYG.yes; (exact want_none rfl); ((first | (apply SY.call (both27_p _ _) Tryz.call78; (exact aD)) | (apply SY.mul; exact OpD.t rfl; exact OpD.t rfl; (rw [hmI]; omega)) | exact yGtr | exact yNeq | exact yLen | exact yFieldaddr | exact yBox | fail); all_goals infer_instance))); dsimp only [setD, z0, z1]) | (apply WC.condD; (exact oD); (all_goals intro h); (all_goals try (exfalso; first | omega | contradiction))) | (apply WC.condN; (exact oD); (all_goals intro h); (all_goals try (exfalso; first | omega | contradiction))) | refine WC.skip ?_ | refine WC.block ?_)); all_goals (first | refine WC.id ?_ | refine WL.id ?_ | refine WDs.id ?_ | ((repeat clear hK); (repeat clear Kx))))
      rename Nat => b0
      have hbb : a.length * b.length ≤ 65536 := by omega
      have hmg : ∀ s ∈ meetC27 a b, chkV s = 0 := meetC_good gb.2.2.1
      have hml : (meetC27 a b).length ≤ 1000000 := by
        have := meetC_len a b a.length (Nat.le_refl _)
        rw [List.take_length] at this
        omega
      refine WC.nilRow 32 Verts ?_
      (refine WC.loopU (X := Nat × Value × Cx) (fun x => [(29, dI (x.1 : Int)), (7, dX x.2.1), (9, dA), (30, dA), (31, dA), (32, dA), (33, dA), (34, dA), (35, dA), (36, dA), (37, dA), (38, dA), (39, dA)]) (fun x => [hRow x.2.1 32 Verts x.2.2, hCell b0 24 1 true (dX (.agg #[.slice none 0 0]))]) (fun x => a.length - x.1) (fun x => x.1 ≤ a.length ∧ x.2.2 = meetC27 (a.take x.1) b) (0, .slice none 0 0, []) ?start ?frame0 ?objs0 ?round)
      case start => exact ⟨Nat.zero_le _, rfl⟩
      case frame0 => ((try dsimp only [upds, z0, z1]); repeat (first | exact LeF.nil | refine LeF.cons (by first | with_reducible exact Dat.le_any _ | with_reducible exact Dat.le_refl _ | exact le_ii (by omega) | exact Dat.le_nil | exact Dat.le_nilK (by decide) | assumption | exact Dat.le_refl _ | exact le_eq (by simp)) ?_))
      case objs0 => rfl
      case round =>
        rintro ⟨k, v, o⟩ ⟨h1, h2⟩
        simp only at h1 h2
        have hol : o.length ≤ 65536 := by
          have h3 := meetC_len a b k h1
          rw [← h2] at h3
          have := Nat.mul_le_mul_right b.length h1
          omega
        dsimp only [upds, z0, z1]
        by_cases hk : k < a.length
        · have hel := each_len (fun v => decide (v ∈ a[k])) b
          ((repeat' (first | (apply WL.opG; (focus (apply SYG.yes; (exact want_none rfl); (first | (apply SY.move <;> (exact oD)) | (apply SY.assign <;> (exact oD)) | (apply SY.load; (exact tD); (exact OpD.t rfl))))); dsimp only [setD, z0, z1]) | refine WL.nil ?_ | refine WC.seqK fun Kx hK => ?_ | (refine hK _ _ ?_; clear hK) | refine WC.region ?_ |  (refine WL.alloc tzL (shape_X rfl) fun b9 => ?_; dsimp only [setD, z0, z1]) | ((first | apply WL.appK | apply WL.app1); (exact eD); exact OpD.t rfl; (exact oD); decide; (exact lD); (intro _; dsimp only [setD, z0, z1]); all_goals (try infer_instance)) | (apply WL.storeF; (exact tD); rfl; (exact oD); (exact hD); dsimp only [setD, z0, z1]) | (apply WL.opG; (focus (apply SYG.yes; (exact want_none rfl); ((first | (apply SY.makeFun (A := fun v : VxOf (fun _ => True) => [dS RV v.1]) (r := fun v => dB (decide (v.1 ∈ a[k]))) Tryz.call111 (fun v => meet1_p v.1 a[k]) (fun _ => bare_B); (exact aD)) | (apply SY.call (each_p (fun _ => True) b (fun v => decide (v ∈ a[k])) (fun _ _ _ _ => trivial) (fun f hf => Nat.le_trans (gb.short f hf) (by decide)) gb.len) Tryz.call87; (exact aD)) | exact yLss | exact yAdd | exact yIndexaddr | exact yFieldaddr | fail); all_goals infer_instance))); dsimp only [setD, z0, z1]) | (apply WC.condD; (exact oD); (all_goals intro h); (all_goals try (exfalso; first | omega | contradiction))) | refine WC.skip ?_ | refine WC.block ?_ | refine ThenD.n ?_)); all_goals (first | refine WC.id ?_ | refine WL.id ?_ | refine WDs.id ?_ | ((repeat clear hK); (repeat clear Kx))))
          (refine ⟨(k + 1, _, o ++ eachC (fun v => decide (v ∈ a[k])) b), ?_, by first | omega | (simp only; omega), rfl, ?_⟩; rotate_left; ((try dsimp only [upds, z0, z1]); repeat (first | exact LeF.nil | refine LeF.cons (by first | with_reducible exact Dat.le_any _ | with_reducible exact Dat.le_refl _ | exact le_ii (by omega) | exact Dat.le_nil | exact Dat.le_nilK (by decide) | assumption | exact Dat.le_refl _ | exact le_eq (by simp)) ?_)); (try dsimp only))
          refine ⟨by omega, ?_⟩
          show o ++ _ = _
          rw [meetC_snoc hk, h2]
        · rw [List.take_of_length_le (by omega)] at h2
          subst h2
          ((repeat' (first |  (refine WL.keep1 (s := 40) rfl ?_; dsimp only [z0, z1]) | (apply WL.opG; (focus (apply SYG.yes; (exact want_none rfl); (first | (apply SY.move <;> (exact oD)) | (apply SY.assign <;> (exact oD)) | (apply SY.load; (exact tD); (exact OpD.t rfl))))); dsimp only [setD, z0, z1]) | refine WL.nil ?_ | refine WC.seqK fun Kx hK => ?_ | (refine hK _ _ ?_; clear hK) | (refine Kont.skip ?_; clear hK) | refine WC.region ?_ | (apply WL.storeF; (exact tD); rfl; (exact oD); (exact hD); dsimp only [setD, z0, z1]) | (apply WL.opG; (focus (apply SYG.yes; (exact want_none rfl); ((first | (apply SY.call (limited27_p _ hmg hml) Tryz.call110; (exact aD)) | exact yLss | exact yExtract | fail); all_goals infer_instance))); dsimp only [setD, z0, z1]) | (apply WC.condD; (exact oD); (all_goals intro h); (all_goals try (exfalso; first | omega | contradiction))) | refine WC.ret ?_ | refine WC.exit ?_)); all_goals (first | refine WC.id ?_ | refine WL.id ?_ | refine WDs.id ?_ | ((repeat clear hK); (repeat clear Kx))))
          rw [e]; (refine ⟨trivial, ⟨_, rfl, ?_⟩, _, rfl, ?_⟩ <;> (first | exact fD | refine FinD.i ?_ | refine FinD.b ?_ | refine FinD.rowKE (.head _) ?_ | refine FinD.rowE (.head _) ?_ | refine FinD.nilKE (by decide) ?_ | refine FinD.nilE ?_ | refine FinD.s ?_))
  · have e : meetP a b = ([], twoC a b) := by unfold meetP; rw [if_pos h0]
    ((repeat' (first | (apply WL.opG; (focus (apply SYG.yes; (exact want_none rfl); (first | (apply SY.move <;> (exact oD)) | (apply SY.assign <;> (exact oD)) | (apply SY.load; (exact tD); (exact OpD.t rfl))))); dsimp only [setD, z0, z1]) | refine WL.nil ?_ | refine WC.seqK fun Kx hK => ?_ | (refine hK _ _ ?_; clear hK) | refine WC.region ?_ | (apply WL.alloc; (first | exact tzV | exact tzC); (first | exact shape_X rfl | exact shape_XV | exact shape_C0 rfl); (intro _; dsimp only [setD, z0, z1])) | (apply WL.storeF; (exact tD); rfl; (exact oD); (exact hD); dsimp only [setD, z0, z1]) | (apply WL.opG; (focus (apply SYG.yes; (exact want_none rfl); ((first | (apply SY.call (both27_p _ _) Tryz.call78; (exact aD)) | exact yNeq | exact yBuild | exact yBox | fail); all_goals infer_instance))); dsimp only [setD, z0, z1]) | (apply WC.condN; (exact oD); (all_goals intro h); (all_goals try (exfalso; first | omega | contradiction))) | refine WC.ret ?_ | refine ThenD.r ?_)); all_goals (first | refine WC.id ?_ | refine WL.id ?_ | refine WDs.id ?_ | ((repeat clear hK); (repeat clear Kx))))
    all_goals (rw [e]; (refine ⟨trivial, ⟨_, rfl, ?_⟩, _, rfl, ?_⟩ <;> (first | exact fD | refine FinD.i ?_ | refine FinD.b ?_ | refine FinD.rowKE (.head _) ?_ | refine FinD.rowE (.head _) ?_ | refine FinD.nilKE (by decide) ?_ | refine FinD.nilE ?_ | refine FinD.s ?_)))
end Go.Proofs.YtkedmlandjlogaaGreat
namespace Go.Proofs.YtkedmlandjlogaaGreat
open Go.RowKit
abbrev hIt (b r n : Nat) (seen : Array Nat) : HObj := hObj r (.mapIter (some b) n seen n)
section
variable {P : Program} {w : World}
theorem run_getObj_at {r : Nat} {a : Option Nat} {b : Nat} {c : Array Nat} {d : Nat} (h : w.heap[r]? = some (.mapIter a b c d)) : (getObj r).run P w = .ok (.mapIter a b c d) w := by simp [getObj, Sem.run, h]
theorem run_setObj_at {r : Nat} {a : Option Nat} {b : Nat} {c : Array Nat} {d : Nat} (o' : Obj) (h : w.heap[r]? = some (.mapIter a b c d)) : (setObj r o').run P w = .ok () (w.putObj r o') := by simp [setObj, Sem.run, h, World.putObj]
theorem run_next_any {ty : TypeId} {b r since c0 clock : Nat} {seen : Array Nat} {es : Array MapEntry} (hb : w.heap[b]? = some (.map es clock)) (hr : w.heap[r]? = some (.mapIter (some b) since seen c0)) (hold : ∀ x ∈ es.toList, x.born < since) (hsc : since ≤ c0) :
    ((leftOf es seen).size = 0 ∧ (Instr.next (.pointer (some ⟨r, 0, none⟩)) false ty).run P w = .ok (.tuple #[.bool false]) w) ∨
    ∃ e ∈ (leftOf es seen).toList, ∃ w1 : World, (w1 = w ∨ w1 = w.drew) ∧ (Instr.next (.pointer (some ⟨r, 0, none⟩)) false ty).run P w = .ok (.tuple #[.bool true, e.key, e.val]) (w1.putObj r (.mapIter (some b) since (seen.push e.born) clock)) := by
  simp only [Instr.next, Sem.run_bind, run_getObj_at hr, MapKept.run_getObj_map hb, Result.andThen, next_test_false seen es since c0 hold hsc, Bool.false_eq_true, if_false]
  unfold leftOf
  have hmem : ∀ x ∈ (Array.filter (fun e => !seen.contains e.born) es).toList, x.born < since := fun x hx => hold x (by simp at hx ⊢; exact hx.1)
  generalize Array.filter (fun e => !seen.contains e.born) es = L at hmem ⊢
  have e1 : L.filter (fun x => decide (x.born < since)) = L := Array.filter_eq_self.2 (fun x hx => by simpa using hmem x (by simpa using hx))
  have e2 : L.filter (fun x => decide (x.born ≥ since)) = #[] := by
    rw [Array.filter_eq_empty_iff]
    intro x hx
    have := hmem x (by simpa using hx)
    simp
    omega
  simp only [e1, e2, Array.append_empty]
  by_cases h0 : L.size = 0
  · left
    have : L = #[] := Array.eq_empty_of_size_eq_zero h0
    subst this
    refine ⟨rfl, ?_⟩
    simp [choose, Sem.run, Question.forced]
  · right
    have hne : L.isEmpty = false := by simp [Array.isEmpty, h0]
    simp only [hne, Bool.false_eq_true, if_false, Array.empty_append, Array.size_map]
    have hch : ∃ (j : Nat) (w1 : World), j < L.size ∧ (w1 = w ∨ w1 = w.drew) ∧ (choose (Question.mapNext L.size)).run P w = .ok j w1 := by
      by_cases hf : L.size ≤ 1
      · exact ⟨0, w, by omega, .inl rfl, by simp [choose, Sem.run, Question.forced, hf]⟩
      · exact ⟨_, w.drew, Nat.mod_lt _ (by omega), .inr rfl, by
          simp only [choose, Sem.run, Question.forced, decide_eq_true_eq, hf, if_false, Question.cut]
          rfl⟩
    obtain ⟨j, w1, hj, hal, hrun⟩ := hch
    refine ⟨L[j], by simp, w1, hal, ?_⟩
    have hr1 : w1.heap[r]? = some (.mapIter (some b) since seen c0) := by rcases hal with rfl | rfl <;> exact hr
    simp only [hrun, Array.getElem?_map, Array.getElem?_eq_getElem hj, Option.map_some, Sem.run_bind, run_setObj_at _ hr1, Result.andThen]
    rfl
end
section
variable {P : Program} {ops : Array Oper} {hp : List HObj} {o : Oper} {fr : List Dat} {d d2 : Dat} {Q : Post} {rest : List Oper}
variable {dst : Option Tmp} {ty : TypeId} {ps : String} {af : Array Edge} {g : Option (Nat × Bool)} {t k e : TypeId} {z : Value} {K V : Type} {kv : K → Value} {ok : K → Prop} {vv : V → Value} {b r : Nat} {m : List (K × V)} {seen : Array Nat}
theorem WL.rangeM {x : Operand} (T : MapT P t k e z) (hx : OpD fr x (dX (.map (some b)))) (hm : hM b kv vv m ∈ hp)
    (h : ∀ r, WL P ops Q rest (setD fr dst (dX (.pointer (some ⟨r, 0, none⟩)))) (hIt b r m.length #[] :: hp)) :
    WL P ops Q ({ dst := dst, op := .range t x, type := ty, pos := ps, after := af, guard := none } :: rest) fr hp := by
  refine WL.of fun P0 B w0 w a hh hf => ?_
  have h1 : a.eval x = _ := hx.ev hf
  have hb : w.heap[b]? = some (.map (entriesM 0 (encM kv vv m)).toArray (encM kv vv m).length) := hh.ok _ hm
  have hl : (encM kv vv m).length = m.length := by simp [encM]
  rw [hl] at hb
  have hrun : (execOp a.eval { dst := dst, op := .range t x, type := ty, pos := ps, after := af, guard := none }).run P w = .ok (.value (.pointer (some ⟨w.heap.size, 0, none⟩))) (w.alloc (.mapIter (some b) m.length #[] m.length)) := by
    unfold execOp
    simp only [h1, Sem.run_bind, run_range_map w t k e b _ _ T.under hb, Result.andThen_ok, Sem.run_pure]
  refine wpList_value rfl hrun ?_
  have hx := Ext.of_alloc w (.mapIter (some b) m.length #[] m.length)
  have hb : ∀ k, (hIt b w.heap.size m.length #[]).blk = some k → w.heap.size ≤ k ∧ k < (w.alloc (.mapIter (some b) m.length #[] m.length)).heap.size := fun k hk => by
    cases hk
    exact ⟨Nat.le_refl _, by simp⟩
  refine (h w.heap.size).on (hh.push hx hb (alloc_get w _)) ?_
  exact Fr.put (hf.mono fun d _ hd => Hp.pushed hx (fun k hk => (hb k hk).1) hd) rfl
theorem WL.nextM {x : Operand} (hx : OpD fr x (dX (.pointer (some ⟨r, 0, none⟩)))) (hm : hM b kv vv m ∈ hp)
    (h1 : (∀ j, j < m.length → j ∈ seen) → WL P ops Q rest (setD fr dst (dT [dB false])) (hIt b r m.length seen :: hp))
    (h2 : ∀ (j : Nat) (hj : j < m.length), j ∉ seen → WL P ops Q rest (setD fr dst (dT [dB true, dX (kv m[j].1), dX (vv m[j].2)])) (hIt b r m.length (seen.push j) :: hp)) :
    WL P ops Q ({ dst := dst, op := .next x false, type := ty, pos := ps, after := af, guard := none } :: rest) fr (hIt b r m.length seen :: hp) := by
  refine WL.of fun P0 B w0 w a hh hf => ?_
  have e1 : a.eval x = _ := hx.ev hf
  have hl : (encM kv vv m).length = m.length := by simp [encM]
  have hb : w.heap[b]? = some (.map (entriesM 0 (encM kv vv m)).toArray (encM kv vv m).length) := hh.ok (hM b kv vv m) (List.mem_cons_of_mem _ hm)
  rw [hl] at hb
  have hr : w.heap[r]? = some (.mapIter (some b) m.length seen m.length) := hh.ok (hIt b r m.length seen) (by simp)
  have hlen : (entriesM 0 (encM kv vv m)).length = m.length := by rw [entriesM_len, hl]
  have hat : ∀ (i : Nat) (h : i < m.length), (entriesM 0 (encM kv vv m))[i]'(by rw [hlen]; exact h) = ⟨kv m[i].1, vv m[i].2, i⟩ := fun i h => by
    rw [entriesM_get _ _ _ (by rw [hl]; exact h)]
    simp [encM]
  have hold : ∀ x ∈ ((entriesM 0 (encM kv vv m)).toArray).toList, x.born < m.length := fun x hx => by
    obtain ⟨i, hi, rfl⟩ := List.getElem_of_mem (by simpa using hx : x ∈ entriesM 0 (encM kv vv m))
    rw [hlen] at hi
    rw [hat i hi]; exact hi
  rcases run_next_any (P := P) (ty := ty) hb hr hold (Nat.le_refl _) with ⟨hleft, hrun⟩ | ⟨en, hen, w1, hw1, hrun⟩
  · have hr' : (execOp a.eval { dst := dst, op := .next x false, type := ty, pos := ps, after := af, guard := none }).run P w = .ok (.value (.tuple #[.bool false])) w := by
      unfold execOp
      simp only [e1, Sem.run_bind, hrun, Result.andThen_ok, Sem.run_pure]
    refine wpList_value rfl hr' ?_
    refine (h1 fun j hj => ?_).on hh (Fr.put hf ⟨[.bool false], rfl, rfl, fun i e x he hx => by
      match i, he, hx with
      | 0, he, hx => cases he; cases hx; rfl⟩)
    have h0 : leftOf (entriesM 0 (encM kv vv m)).toArray seen = #[] := Array.eq_empty_of_size_eq_zero hleft
    unfold leftOf at h0
    rw [Array.filter_eq_empty_iff] at h0
    have hmem : (entriesM 0 (encM kv vv m))[j]'(by rw [hlen]; exact hj) ∈ (entriesM 0 (encM kv vv m)).toArray := by simp
    have := h0 _ hmem
    rw [hat j hj] at this
    simpa using this
  · have hen' : en ∈ entriesM 0 (encM kv vv m) ∧ en.born ∉ seen := by
      unfold leftOf at hen
      simpa using hen
    obtain ⟨hen1, hen2⟩ := hen'
    obtain ⟨j, hj, rfl⟩ := List.getElem_of_mem hen1
    rw [hlen] at hj
    rw [hat j hj] at hrun hen2
    have hr' : (execOp a.eval { dst := dst, op := .next x false, type := ty, pos := ps, after := af, guard := none }).run P w = .ok (.value (.tuple #[.bool true, kv m[j].1, vv m[j].2])) (w1.putObj r (.mapIter (some b) m.length (seen.push j) m.length)) := by
      unfold execOp
      simp only [e1, Sem.run_bind, hrun, Result.andThen_ok, Sem.run_pure]
    refine wpList_value rfl hr' ?_
    have hx1 : Ext w w1 := by
      rcases hw1 with rfl | rfl
      · exact Ext.refl _
      · exact (Ext.refl _).drew
    have hT : ∀ {I : Nat → Prop} {w : World}, (dT [dB true, dX (kv m[j].1), dX (vv m[j].2)]).rd I w (.tuple #[.bool true, kv m[j].1, vv m[j].2]) := ⟨[.bool true, kv m[j].1, vv m[j].2], rfl, rfl, fun i e x he hx => by
      match i, he, hx with
      | 0, he, hx => cases he; cases hx; rfl
      | 1, he, hx => cases he; cases hx; rfl
      | 2, he, hx => cases he; cases hx; rfl⟩
    exact (h2 j hj hen2).on (Hp.putObj (hh.ext hx1)) (Fr.put ((hf.ext hx1).mono fun _ _ hd => Hp.putObj_rd hd) hT)
theorem SY.entryM {x : Operand} {j : Nat} (hx : OpD fr x (dX (.pointer (some ⟨r, 0, none⟩)))) (hi : hIt b r m.length (seen.push j) ∈ hp) (hm : hM b kv vv m ∈ hp) (hj : j < m.length) :
    SY P ops hp { dst := dst, op := .entry x, type := ty, pos := ps, after := af, guard := g } fr (dT [dX (kv m[j].1), dX (vv m[j].2)]) := SY.valE fun {P0 B w0 w a} hh hon => by
  have e1 : a.eval x = _ := hx.get (by simp [Op.operands]) hon
  have hl : (encM kv vv m).length = m.length := by simp [encM]
  have hb : w.heap[b]? = some (.map (entriesM 0 (encM kv vv m)).toArray (encM kv vv m).length) := hh.ok (hM b kv vv m) hm
  rw [hl] at hb
  have hr : w.heap[r]? = some (.mapIter (some b) m.length (seen.push j) m.length) := hh.ok (hIt b r m.length (seen.push j)) hi
  have hlen : (entriesM 0 (encM kv vv m)).length = m.length := by rw [entriesM_len, hl]
  have hat : ∀ (i : Nat) (h : i < m.length), (entriesM 0 (encM kv vv m))[i]'(by rw [hlen]; exact h) = ⟨kv m[i].1, vv m[i].2, i⟩ := fun i h => by
    rw [entriesM_get _ _ _ (by rw [hl]; exact h)]
    simp [encM]
  have hf : (entriesM 0 (encM kv vv m)).toArray.find? (·.born == j) = some ⟨kv m[j].1, vv m[j].2, j⟩ := by
    rw [← Array.find?_toList]
    rw [List.find?_eq_some_iff_getElem]
    refine ⟨by simp, j, by simp; rw [hlen]; exact hj, by simpa using hat j hj, fun i hi => ?_⟩
    have := hat i (by omega)
    simp [this]; omega
  refine ⟨.tuple #[kv m[j].1, vv m[j].2], w, ?_, Ext.refl _, [kv m[j].1, vv m[j].2], rfl, rfl, fun i e x he hx => ?_⟩
  · unfold execOp
    have : (Instr.entry (.pointer (some ⟨r, 0, none⟩))).run P w = .ok (.tuple #[kv m[j].1, vv m[j].2]) w := by
      simp only [Instr.entry, Sem.run_bind, run_getObj_at hr, MapKept.run_getObj_map hb, Result.andThen, Array.back?_push, bne_self_eq_false, Bool.false_eq_true, if_false, hf]
      rfl
    simp only [e1, Sem.run_bind, this, Result.andThen_ok, Sem.run_pure]
  · match i, he, hx with
    | 0, he, hx => cases he; cases hx; rfl
    | 1, he, hx => cases he; cases hx; rfl
end
end Go.Proofs.YtkedmlandjlogaaGreat
namespace Go.Proofs.YtkedmlandjlogaaGreat
open Go.RowKit
section
variable {P : Program} {ops : Array Oper} {hp : List HObj} {o : Oper} {fr : List Dat} {d d2 : Dat} {Q : Post} {rest : List Oper}
variable {dst : Option Tmp} {ty : TypeId} {ps : String} {af : Array Edge} {t k e : TypeId} {z : Value} {K V : Type} [DecidableEq K] {kv : K → Value} {ok : K → Prop} {vv : V → Value} {b r : Nat} {m : List (K × V)}
theorem rd_t2 {I : Nat → Prop} {w : World} (u : Value) (n : Int) : (dT [dX u, dI n]).rd I w (.tuple #[u, .int .i64 n]) := ⟨[u, .int .i64 n], rfl, rfl, fun i e x he hx => by
  match i, he, hx with
  | 0, he, hx => cases he; cases hx; rfl
  | 1, he, hx => cases he; cases hx; rfl⟩
theorem SW.entOld {x y : Operand} {v : K} {q : Nat} (T : MapT P t k e z) (H : KeyT P k kv ok) (hx : OpD fr x (dX (.map (some b)))) (hy : OpD fr y d) (hd : IsV d (kv v)) (ho : ok v) (hok : ∀ p ∈ m, ok p.1) (hn : (m.map (·.1)).Nodup) (hq : q < m.length) (hqv : m[q].1 = v) (zv : V) (hz : vv zv = z) :
    SW P ops (hM b kv vv m :: hp) (fun _ : Unit => hM b kv vv m :: hp) (fun _ => dT [dX (vv m[q].2), dI q]) { dst := dst, op := .mapEntry t x y, type := ty, pos := ps, after := af, guard := none } fr := ⟨rfl, fun {P0 B w0 w a} hh hon KK QQ hkk => by
  have e1 : a.eval x = _ := hx.get (by simp [Op.operands]) hon
  have e2 := hd.is _ _ _ (hy.get (by simp [Op.operands]) hon)
  rcases run_entry T H hok ho (hh.ok (hM b kv vv m) (by simp)) with ⟨j, hj, hjv, hr⟩ | ⟨hne, hr⟩
  · have hjq : j = q := by
      have hp := List.pairwise_iff_getElem.1 hn
      have a1 : j < (m.map (·.1)).length := by simpa using hj
      have a2 : q < (m.map (·.1)).length := by simpa using hq
      have h3 : (m.map (·.1))[j] = (m.map (·.1))[q] := by simp [hjv, hqv]
      rcases Nat.lt_trichotomy j q with h | h | h
      · exact absurd h3 (hp j q a1 a2 h)
      · exact h
      · exact absurd h3.symm (hp q j a2 a1 h)
    subst hjq
    have hrun : (execOp a.eval { dst := dst, op := .mapEntry t x y, type := ty, pos := ps, after := af, guard := none }).run P w = .ok (.value (.tuple #[vv m[j].2, .int .i64 j])) (w.putObj b (mapObj (encM kv vv m))) := by
      unfold execOp
      simp only [e1, e2, Sem.run_bind, hr, Result.andThen_ok, Sem.run_pure]
      rfl
    unfold Oper.wp
    rw [hrun]
    exact hkk () _ _ (Hp.putObj hh) (fun d u hd => Hp.putObj_rd hd) (rd_t2 _ _)
  · exact absurd hqv (hne _ (List.getElem_mem hq))⟩
theorem SW.entNew {x y : Operand} {v : K} (zv : V) (hz : vv zv = z) (T : MapT P t k e z) (H : KeyT P k kv ok) (hx : OpD fr x (dX (.map (some b)))) (hy : OpD fr y d) (hd : IsV d (kv v)) (ho : ok v) (hok : ∀ p ∈ m, ok p.1) (hne : ∀ p ∈ m, p.1 ≠ v) :
    SW P ops (hM b kv vv m :: hp) (fun _ : Unit => hM b kv vv (m ++ [(v, zv)]) :: hp) (fun _ => dT [dX z, dI m.length]) { dst := dst, op := .mapEntry t x y, type := ty, pos := ps, after := af, guard := none } fr := ⟨rfl, fun {P0 B w0 w a} hh hon KK QQ hkk => by
  have e1 : a.eval x = _ := hx.get (by simp [Op.operands]) hon
  have e2 := hd.is _ _ _ (hy.get (by simp [Op.operands]) hon)
  rcases run_entry T H hok ho (hh.ok (hM b kv vv m) (by simp)) with ⟨j, hj, hjv, hr⟩ | ⟨_, hr⟩
  · exact absurd hjv (hne _ (List.getElem_mem hj))
  · have hrun : (execOp a.eval { dst := dst, op := .mapEntry t x y, type := ty, pos := ps, after := af, guard := none }).run P w = .ok (.value (.tuple #[z, .int .i64 m.length])) (w.putObj b (mapObj (encM kv vv (m ++ [(v, zv)])))) := by
      unfold execOp
      simp only [e1, e2, Sem.run_bind, hr zv hz, Result.andThen_ok, Sem.run_pure]
      rfl
    unfold Oper.wp
    rw [hrun]
    exact hkk () _ _ (Hp.putObj hh) (fun d u hd => Hp.putObj_rd hd) (rd_t2 _ _)⟩
theorem WL.keepM {R : Rel V} [Good R] {s : Tmp} (hs : fr[s]? = some (dP 1 false (dX (.map (some b))))) (hvv : ∀ I w (y : V), R I w (vv y) y) (h : WL P ops Q rest (fr.set s (dP 1 false (dS (MapR kv R) m))) hp) : WL P ops Q rest fr (hM b kv vv m :: hp) := WL.of fun P0 B w0 w a hh hf => by
  refine h.on hh.drop ⟨hf.defers, by rw [hf.size, List.length_set], fun t' d' hd' => ?_⟩
  by_cases htt : s = t'
  · subst htt
    rw [List.getElem?_set] at hd'
    simp only [if_true] at hd'
    split at hd'
    · cases hd'
      obtain ⟨b', off, u, h1, h2, h3⟩ := hf.rd s _ hs
      have hown := hh.own (hM b kv vv m) (by simp) b rfl
      have hb : w.heap[b]? = some (mapObj _) := hh.ok (hM b kv vv m) (by simp)
      refine ⟨b', off, u, h1, ⟨Imm.sub _ h2.1, h2.2⟩, b, m.map fun p => vv p.2, h3, ⟨.inr hown.1, fun o ho hk => (List.pairwise_cons.1 hh.apart).1 o ho b rfl hk⟩, by simp, ?_, fun k h1 h2 => ?_⟩
      · rw [hb]
        congr 2
        unfold encM
        rw [List.zip_map', List.map_map]
        rfl
      · simp only [List.getElem_map]
        exact hvv _ _ _
    · cases hd'
  · rw [List.getElem?_set_ne htt] at hd'
    exact d'.weak (hf.rd t' d' hd') Imm.sub
end
end Go.Proofs.YtkedmlandjlogaaGreat
