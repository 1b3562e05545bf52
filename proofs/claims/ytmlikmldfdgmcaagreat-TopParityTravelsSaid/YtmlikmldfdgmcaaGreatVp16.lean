/-
  Part 16 of the texts that the claims of this seat lean on: walks of the program's functions by contracts over symbolic frames, and plain laws of what they compute. No condition.
-/
import Derived.Test.YtmlikmldfdgmcaaGreatVp5
import Derived.Test.YtmlikmldfdgmcaaGreatVp7
import Derived.Test.YtmlikmldfdgmcaaGreatVp12
import Derived.Test.YtmlikmldfdgmcaaGreatVp13
import Derived.Test.YtmlikmldfdgmcaaGreatVp14
import Derived.Test.YtmlikmldfdgmcaaGreatVp15
set_option linter.unusedVariables false
set_option linter.unusedSimpArgs false
set_option linter.unusedSectionVars false
namespace Go.Proofs.YtmlikmldfdgmcaaGreat
open Go.RowKit
set_option linter.unusedSimpArgs false

set_option maxHeartbeats 2000000
set_option maxRecDepth 100000
def faceG : List Vx → List Vx → Bool
  | [], _ => true
  | v :: a, b => if (b.dropWhile fun x => decide (x ≠ v)) = [] then false else faceG a (b.dropWhile fun x => decide (x ≠ v))
theorem faceG_skip {v x : Vx} {a c : List Vx} (h : x ≠ v) : faceG (v :: a) (x :: c) = faceG (v :: a) c := by
  unfold faceG
  rw [List.dropWhile_cons_of_pos (by simpa using h)]
theorem faceG_hit {v : Vx} {a c : List Vx} : faceG (v :: a) (v :: c) = faceG a (v :: c) := by
  conv => lhs; unfold faceG
  rw [List.dropWhile_cons_of_neg (by simp)]
  simp
theorem faceG_end {v : Vx} {a : List Vx} : faceG (v :: a) [] = false := by unfold faceG; simp
theorem face27_p (a b : List Vx) : Fn Tryz.prog 73 [dS Verts a, dS Verts b] (dB (faceG a b)) := by
  (refine Fn.intro1 Tryz.func73 rfl rfl ?_; simp only [Tryz.ntmps73, List.length_cons, List.length_nil, Nat.reduceAdd, Nat.reduceSub, List.replicate_succ, List.replicate_zero, List.cons_append, List.nil_append])
  (repeat' (first | ((first | apply WL.opN | apply WD.opN); exact yF; dsimp only [setD, z0, z1]) | refine WL.nil ?_ | refine WC.seqK fun Kx hK => ?_ | (refine hK _ _ ?_; clear hK) | refine WC.region ?_ | ((first | apply WL.opG | apply WD.op); (focus (first | exact wN | (apply SYG.yes; (exact wY); ((first | exact yLen | fail); all_goals infer_instance)))); dsimp only [setD, z0, z1]) | refine WC.block ?_))
  (first | refine WC.know (t := 0) rfl le_K fun hl0 => ?_ | refine WC.know (t := 0) rfl le_A fun hl0 => ?_ | refine WC.know (t := 0) rfl le_C fun hl0 => ?_); simp only [maxLen] at hl0
  (refine WC.loopU (X := Nat × List Vx) (fun x => [(9, dI (x.1 : Int)), (1, dS Verts x.2), (4, dA), (6, dA), (10, dA), (11, dA), (12, dA), (13, dA), (14, dA), (15, dA), (16, dA), (17, dA), (18, dA), (19, dA), (20, dA), (21, dA), (22, dA), (23, dA), (24, dA), (25, dA), (26, dA), (27, dA), (28, dA)]) (fun x => []) (fun x => a.length - x.1) (fun x => x.1 ≤ a.length ∧ faceG a b = faceG (a.drop x.1) x.2) (0, b) ?start ?frame0 ?objs0 ?round)
  case start => exact ⟨Nat.zero_le _, rfl⟩
  case frame0 => ((try dsimp only [upds, z0, z1]); repeat (first | exact LeF.nil | refine LeF.co (k := ?_)))
  case objs0 => rfl
  case round =>
    rintro ⟨k, c⟩ ⟨h1, h2⟩
    simp only at h1 h2
    dsimp only [upds, z0, z1]
    ((repeat' (first | ((first | apply WL.opN | apply WD.opN); exact yF; dsimp only [setD, z0, z1]) | refine WL.nil ?_ | refine WC.seqK fun Kx hK => ?_ | (refine hK _ _ ?_; clear hK) | (refine Kont.skip ?_; clear hK) | refine WC.region ?_ | (apply WL.alloc; (first | exact tzV | exact tzC); (first | exact shape_X rfl | exact shape_XV | exact shape_C0 rfl); (intro _; dsimp only [setD, z0, z1])) | (apply WL.storeF; (exact tD); rfl; (exact oD); (exact hD); dsimp only [setD, z0, z1]) | ((first | apply WL.opG | apply WD.op); (focus (first | exact wN | (apply SYG.yes; (exact wY); ((first | exact yLss | exact yIndexaddr | fail); all_goals infer_instance)))); dsimp only [setD, z0, z1]) | (apply WC.condD; (exact oD); all_goals (intro h; try exact xD)) | refine WC.skip ?_ | refine WC.ret ?_ | refine WC.exit ?_ | refine WC.block ?_)); all_goals (first | refine WC.id ?_ | ((repeat clear hK); (repeat clear Kx))))
    · (refine WC.loopU (X := List Vx) (fun c' => [(1, dS Verts c'), (13, dA), (14, dA), (15, dA), (16, dA), (17, dA), (18, dA), (19, dA), (20, dA), (21, dA), (22, dA), (23, dA), (24, dA)]) (fun c' => []) (fun c' => c'.length) (fun c' => c'.length ≤ c.length ∧ faceG a b = faceG (a.drop k) c') c ?start ?frame0 ?objs0 ?round)
      case start => exact ⟨Nat.le_refl _, h2⟩
      case frame0 => ((try dsimp only [upds, z0, z1]); repeat (first | exact LeF.nil | refine LeF.co (k := ?_)))
      case objs0 => rfl
      case round =>
        rintro c' ⟨h3, h4⟩
        dsimp only [upds, z0, z1]
        ((repeat' (first | ((first | apply WL.opN | apply WD.opN); exact yF; dsimp only [setD, z0, z1]) | refine WL.nil ?_ | refine WD.nil ?_ | refine WC.seqK fun Kx hK => ?_ | (refine hK _ _ ?_; clear hK) | (refine Kont.skip ?_; clear hK) | refine WC.region ?_ | (apply WC.draw; kernel_rfl; kernel_rfl) | ((first | apply WL.opG | apply WD.op); (focus (first | exact wN | (apply SYG.yes; (exact wY); ((first | (apply SY.ixKJ elV (OpD.t rfl) OpD.i 0 rfl; omega) | (apply SY.fromK elV (OpD.t rfl) OpD.i 1 rfl; omega) | exact yMove | exact yGtr | exact yEql | exact yNeq | exact yAdd | exact yLoad | exact yLen | exact yPick | fail); all_goals infer_instance)))); dsimp only [setD, z0, z1]) | ((first | refine WL.caseP rfl rfl rfl (fun h => ?_) (fun h => ?_) | refine WL.caseN rfl rfl rfl (fun h => ?_) (fun h => ?_) | refine WL.caseB rfl rfl rfl (fun h => ?_) (fun h => ?_) | refine WD.caseP rfl rfl rfl (fun h => ?_) (fun h => ?_) | refine WD.caseN rfl rfl rfl (fun h => ?_) (fun h => ?_) | refine WD.caseB rfl rfl rfl (fun h => ?_) (fun h => ?_)) <;> (first | (exfalso; first | omega | contradiction) | (dsimp only [z0, z1]))) | (apply WC.condF; (exact oD); (with_reducible rfl)) | (apply WC.condD; (exact oD); all_goals (intro h; try exact xD)) | (apply WC.condN; (exact oD); all_goals (intro h; try exact xD)) | refine WC.skip ?_ | refine WC.ret ?_ | refine WC.exit ?_ | refine WC.block ?_ | refine ThenD.n ?_ | refine ThenD.r ?_ | refine InBlockD.n ?_ | refine InBlockD.r ?_)); all_goals (first | ((repeat clear hK); (repeat clear Kx))))
        all_goals rw [List.drop_eq_getElem_cons (show k < a.length by omega)] at h4
        · have hc : c' = c'[0] :: c'.drop 1 := by
            have := List.drop_eq_getElem_cons (show 0 < c'.length by omega)
            rwa [List.drop_zero] at this
          have hd : (c'.drop 1).length = c'.length - 1 := List.length_drop
          (refine ⟨c'.drop 1, ?_, by first | omega | (simp only; omega), rfl, ?_⟩; rotate_left; ((try dsimp only [upds, z0, z1]); repeat (first | exact LeF.nil | refine LeF.co (k := ?_))); (try dsimp only))
          refine ⟨by omega, ?_⟩
          rw [List.drop_eq_getElem_cons (show k < a.length by omega), h4]
          conv => lhs; rw [hc]
          exact faceG_skip h
        · have hc : c' = a[k] :: c'.drop 1 := by
            have := List.drop_eq_getElem_cons (show 0 < c'.length by omega)
            rw [List.drop_zero] at this
            rw [this]; congr 1
          (refine ⟨(k + 1, c'), ?_, by first | omega | (simp only; omega), rfl, ?_⟩; rotate_left; ((try dsimp only [upds, z0, z1]); repeat (first | exact LeF.nil | refine LeF.co (k := ?_))); (try dsimp only))
          refine ⟨by omega, ?_⟩
          show _ = faceG (a.drop (k + 1)) c'
          rw [h4]
          conv => lhs; rw [hc, faceG_hit]
          rw [← hc]
        · have hc : c' = [] := List.eq_nil_of_length_eq_zero (by omega)
          (refine ⟨trivial, _, rfl, ?_⟩; refine FinD.b ?_)
          rw [h4, hc, faceG_end]
    · rw [List.drop_of_length_le (by omega)] at h2
      (refine ⟨trivial, _, rfl, ?_⟩; refine FinD.b ?_)
      rw [h2]; rfl
end Go.Proofs.YtmlikmldfdgmcaaGreat
namespace Go.Proofs.YtmlikmldfdgmcaaGreat
open Go.RowKit
set_option linter.unusedSimpArgs false

set_option maxHeartbeats 2000000
set_option maxRecDepth 100000
abbrev dPredLOn (s : Cx) (p : List Vx → Bool) : Dat := dFun Tryz.prog (fun v : {v : List Vx // v ∈ s} => [dS Verts v.1]) (fun v => dB (p v.1))
set_option maxHeartbeats 1000000 in
theorem filterS_p (s : Cx) (p : List Vx → Bool) (hl : s.length ≤ 1000000) : Fn Tryz.prog 24 [dS Simps s, dPredLOn s p] (dS Simps (s.filter p)) := by
  (refine Fn.intro1 Tryz.func24 rfl rfl ?_; simp only [Tryz.ntmps24, List.length_cons, List.length_nil, Nat.reduceAdd, Nat.reduceSub, List.replicate_succ, List.replicate_zero, List.cons_append, List.nil_append])
  (repeat' (first | (apply WL.opN; exact yF; dsimp only [setD, z0, z1]) | refine WL.nil ?_ | refine WC.seqK fun Kx hK => ?_ | (refine hK _ _ ?_; clear hK) | refine WC.region ?_ | (apply WL.opN; (focus ((first | exact yLen | fail); all_goals infer_instance)); dsimp only [setD, z0, z1]) | refine WC.block ?_))
  refine WC.nilRow 34 Verts ?_
  (refine WC.loopU (X := Nat × Value × Cx) (fun x => [(5, dX x.2.1), (10, dI (x.1 : Int)), (7, dA), (11, dA), (12, dA), (13, dA), (14, dA), (15, dA), (16, dA), (17, dA), (18, dA), (19, dA), (20, dA), (21, dA)]) (fun x => [hRow x.2.1 34 Verts x.2.2]) (fun x => s.length - x.1) (fun x => x.1 ≤ s.length ∧ x.2.2 = (s.take x.1).filter p) (0, .slice none 0 0, []) ?start ?frame0 ?objs0 ?round)
  case start => exact ⟨Nat.zero_le _, by simp⟩
  case frame0 => ((try dsimp only [upds, z0, z1]); repeat (first | exact LeF.nil | refine LeF.co (k := ?_)))
  case objs0 => rfl
  case round =>
    rintro ⟨k, u, o⟩ ⟨h1, h2⟩
    dsimp only [upds, z0, z1]
    simp only at h1 h2
    have hol : o.length ≤ 1000000 := by
      have h5 := List.length_filter_le p (s.take k)
      rw [List.length_take] at h5
      rw [h2]; omega
    ((repeat' (first | (apply WL.opN; exact yF; dsimp only [setD, z0, z1]) | refine WL.nil ?_ | refine WC.seqK fun Kx hK => ?_ | (refine hK _ _ ?_; clear hK) | (refine Kont.skip ?_; clear hK) | refine WC.region ?_ | ((first | apply WL.pushK | apply WL.push1); (exact eD); exact OpD.t rfl; (exact oD); (intro _; exact hD); (exact (by simp)); (exact (by simp)); (first | exact ⟨by decide, by decide⟩ | skip); decide; (exact lD); (intro _; dsimp only [setD, z0, z1]); all_goals (try infer_instance)) | (apply WL.opN; (focus ((first | (apply SY.dynF (x := (⟨s[k], List.getElem_mem _⟩ : {v : List Vx // v ∈ s})); (exact OpD.t rfl); (exact aD)) | exact yLss | exact yAdd | exact yIndexaddr | fail); all_goals infer_instance)); dsimp only [setD, z0, z1]) | (apply WC.condD; (exact oD); all_goals (intro h; try exact xD)) | (apply WC.cond; (exact oD); all_goals (intro h; try exact xD)) | refine WC.skip ?_ | refine WC.ret ?_ | refine WC.exit ?_ | refine WC.block ?_ | refine ThenD.n ?_)); all_goals (first | ((repeat clear hK); (repeat clear Kx))))
    · (refine ⟨(k + 1, _, o ++ [s[k]]), ?_, by first | omega | (simp only; omega), rfl, ?_⟩; rotate_left; ((try dsimp only [upds, z0, z1]); repeat (first | exact LeF.nil | refine LeF.co (k := ?_))); (try dsimp only))
      refine ⟨by omega, ?_⟩
      show o ++ [s[k]] = _
      rw [filt_snoc (by omega), if_pos h, ← h2]
    · (refine ⟨(k + 1, u, o), ?_, by first | omega | (simp only; omega), rfl, ?_⟩; rotate_left; ((try dsimp only [upds, z0, z1]); repeat (first | exact LeF.nil | refine LeF.co (k := ?_))); (try dsimp only))
      refine ⟨by omega, ?_⟩
      show o = _
      rw [filt_snoc (by omega), if_neg (by rw [h]; exact Bool.false_ne_true), List.append_nil, ← h2]
    · rw [List.take_of_length_le (by omega)] at h2
      subst h2
      (refine ⟨trivial, _, rfl, ?_⟩; exact fD)
end Go.Proofs.YtmlikmldfdgmcaaGreat
namespace Go.Proofs.YtmlikmldfdgmcaaGreat
open Go.RowKit
set_option linter.unusedSimpArgs false

set_option maxHeartbeats 2000000
set_option maxRecDepth 100000
abbrev MemS (l : Cx) := {v : List Vx // v ∈ l}
abbrev dPredI (at' : List Int) (p : Int → Bool) : Dat := dFun Tryz.prog (fun i : {i : Int // i ∈ at'} => [dI i.1]) (fun i => dB (p i.1))
theorem idxI_p (l : List Int) (p : Int → Bool) : Fn Tryz.prog 82 [dS Ints l, dPredI l p] (dI (idxG p 0 l)) := by
  (refine Fn.intro1 Tryz.func82 rfl rfl ?_; simp only [Tryz.ntmps82, List.length_cons, List.length_nil, Nat.reduceAdd, Nat.reduceSub, List.replicate_succ, List.replicate_zero, List.cons_append, List.nil_append])
  (repeat' (first | (apply WL.opN; exact yF; dsimp only [setD, z0, z1]) | refine WL.nil ?_ | refine WC.seqK fun Kx hK => ?_ | (refine hK _ _ ?_; clear hK) | refine WC.region ?_ | (apply WL.opN; (focus ((first | exact yLen | fail); all_goals infer_instance)); dsimp only [setD, z0, z1]) | refine WC.block ?_))
  (first | refine WC.know (t := 0) rfl le_K fun hl0 => ?_ | refine WC.know (t := 0) rfl le_A fun hl0 => ?_ | refine WC.know (t := 0) rfl le_C fun hl0 => ?_); simp only [maxLen] at hl0
  (refine WC.loopU (X := Nat) (fun k => [(8, dI (k : Int)), (4, dA), (5, dA), (9, dA), (10, dA), (11, dA), (12, dA), (13, dA), (14, dA), (15, dA), (16, dA), (17, dA), (18, dA)]) (fun k => []) (fun k => l.length - k) (fun k => k ≤ l.length ∧ idxG p 0 l = idxG p k (l.drop k)) 0 ?start ?frame0 ?objs0 ?round)
  case start => exact ⟨Nat.zero_le _, rfl⟩
  case frame0 => ((try dsimp only [upds, z0, z1]); repeat (first | exact LeF.nil | refine LeF.co (k := ?_)))
  case objs0 => rfl
  case round =>
    rintro k ⟨h1, h2⟩
    dsimp only [upds, z0, z1]
    ((repeat' (first | (apply WL.opN; exact yF; dsimp only [setD, z0, z1]) | refine WL.nil ?_ | refine WC.seqK fun Kx hK => ?_ | (refine hK _ _ ?_; clear hK) | (refine Kont.skip ?_; clear hK) | refine WC.region ?_ | (apply WL.opN; (focus ((first | (apply SY.dynF (x := (⟨l[k], List.getElem_mem _⟩ : {i : Int // i ∈ l})); (exact OpD.t rfl); (exact aD)) | exact yLss | exact yAdd | exact yIndexaddr | fail); all_goals infer_instance)); dsimp only [setD, z0, z1]) | (apply WC.condD; (exact oD); all_goals (intro h; try exact xD)) | (apply WC.cond; (exact oD); all_goals (intro h; try exact xD)) | refine WC.skip ?_ | refine WC.ret ?_ | refine WC.exit ?_ | refine WC.block ?_ | refine ThenD.n ?_ | refine ThenD.r ?_ | refine InBlockD.r ?_)); all_goals (first | ((repeat clear hK); (repeat clear Kx))))
    · (refine ⟨trivial, _, rfl, ?_⟩; refine FinD.i ?_)
      rw [h2, idxG_drop (by omega), if_pos h]
    · (refine ⟨k + 1, ?_, by first | omega | (simp only; omega), rfl, ?_⟩; rotate_left; ((try dsimp only [upds, z0, z1]); repeat (first | exact LeF.nil | refine LeF.co (k := ?_))); (try dsimp only))
      exact ⟨by omega, by rw [h2, idxG_drop (by omega), if_neg (by simp [h])]⟩
    · (refine ⟨trivial, _, rfl, ?_⟩; refine FinD.i ?_)
      rw [h2, List.drop_of_length_le (by omega)]; rfl
theorem cntI_p (l : List Int) (p : Int → Bool) : Fn Tryz.prog 58 [dS Ints l, dPredI l p] (dB (l.any p)) := by
  (refine Fn.intro1 Tryz.func58 rfl rfl ?_; simp only [Tryz.ntmps58, List.length_cons, List.length_nil, Nat.reduceAdd, Nat.reduceSub, List.replicate_succ, List.replicate_zero, List.cons_append, List.nil_append])
  ((repeat' (first | (apply WL.opN; exact yF; dsimp only [setD, z0, z1]) | refine WL.nil ?_ | refine WC.seqK fun Kx hK => ?_ | (refine hK _ _ ?_; clear hK) | refine WC.region ?_ | (apply WL.opN; (focus ((first | (apply SY.call (idxI_p _ _) Tryz.call82; (exact aD)) | exact yGeq | fail); all_goals infer_instance)); dsimp only [setD, z0, z1]) | refine WC.ret ?_)); all_goals (first | ((repeat clear hK); (repeat clear Kx))))
  all_goals ((refine ⟨trivial, _, rfl, ?_⟩; refine FinD.b ?_); exact idxG_iff _ _)
end Go.Proofs.YtmlikmldfdgmcaaGreat
namespace Go.Proofs.YtmlikmldfdgmcaaGreat
def findL : List Vx → List Int → Vx → Int
  | u :: vs, a :: A, v => if u = v then a else findL vs A v
  | _, _, _ => 0
theorem findL_none : ∀ {vs : List Vx} {A : List Int} {v : Vx}, v ∉ vs → findL vs A v = 0
  | [], _, _, _ => by unfold findL; rfl
  | _ :: _, [], _, _ => by unfold findL; rfl
  | u :: vs, a :: A, v, h => by
    unfold findL
    rw [if_neg fun e => h (by rw [e]; exact List.mem_cons_self ..)]
    exact findL_none fun q => h (List.mem_cons_of_mem _ q)
theorem findL_get : ∀ {vs : List Vx} {A : List Int} {i : Nat} (_ : vs.Nodup) (h : i < vs.length) (h' : i < A.length), findL vs A vs[i] = A[i]
  | u :: vs, a :: A, 0, _, _, _ => by
    show findL (u :: vs) (a :: A) u = a
    unfold findL
    exact if_pos rfl
  | u :: vs, a :: A, i + 1, hn, h, h' => by
    have hn' := List.nodup_cons.1 hn
    have hi : i < vs.length := Nat.lt_of_succ_lt_succ h
    show findL (u :: vs) (a :: A) vs[i] = A[i]'(Nat.lt_of_succ_lt_succ h')
    unfold findL
    rw [if_neg fun e => hn'.1 (by rw [e]; exact List.getElem_mem _)]
    exact findL_get hn'.2 hi (Nat.lt_of_succ_lt_succ h')
theorem search_end {vs : List Vx} {v : Vx} {i : Nat} (ha : Asc vs) (h1 : ∀ k (h : k < vs.length), k < i → cmpV vs[k] v < 0) (h2 : ∀ k (h : k < vs.length), i ≤ k → ¬ cmpV vs[k] v < 0) (hv : v ∈ vs) : ∃ h : i < vs.length, vs[i] = v := by
  obtain ⟨k, hk, rfl⟩ := List.getElem_of_mem hv
  have h0 : ¬ cmpV vs[k] vs[k] < 0 := by
    unfold cmpV
    rw [if_neg (by omega), if_neg (by omega), if_neg (by omega), if_neg (by omega)]
    decide
  have hik : i ≤ k := Nat.le_of_not_lt fun q => h0 (h1 k hk q)
  have hi : i < vs.length := by omega
  refine ⟨hi, ?_⟩
  rcases Nat.lt_or_ge i k with q | q
  · exact absurd (List.pairwise_iff_getElem.1 ha i k hi hk q) (h2 i hi (Nat.le_refl _))
  · obtain rfl : i = k := by omega
    rfl
end Go.Proofs.YtmlikmldfdgmcaaGreat
namespace Go.Proofs.YtmlikmldfdgmcaaGreat
theorem bv_cast {a : Nat} (h : a < 9223372036854775808) : (BitVec.ofInt 64 (a : Int)).toNat = a := by
  rw [BitVec.ofInt_natCast, BitVec.toNat_ofNat]
  exact Nat.mod_eq_of_lt (by omega)
theorem wrap_cast {a : Nat} (h : a < 9223372036854775808) : IntKind.i64.wrap (a : Int) = (a : Int) := wrap_in (by omega)
theorem iand_cast {a b : Nat} (ha : a < 9223372036854775808) (hb : b < 9223372036854775808) : iand (a : Int) (b : Int) = ((a &&& b : Nat) : Int) := by
  unfold iand
  rw [BitVec.toNat_and, bv_cast ha, bv_cast hb]
  exact wrap_cast (Nat.lt_of_le_of_lt Nat.and_le_left ha)
theorem or_lt {a b : Nat} (ha : a < 9223372036854775808) (hb : b < 9223372036854775808) : a ||| b < 9223372036854775808 :=
  Nat.or_lt_two_pow (n := 63) ha hb
theorem ior_cast {a b : Nat} (ha : a < 9223372036854775808) (hb : b < 9223372036854775808) : ior (a : Int) (b : Int) = ((a ||| b : Nat) : Int) := by
  unfold ior
  rw [BitVec.toNat_or, bv_cast ha, bv_cast hb]
  exact wrap_cast (or_lt ha hb)
theorem shr_cast {a k : Nat} (hk : k ≤ 64) : ishr (a : Int) (k : Int) = ((a >>> k : Nat) : Int) := by
  unfold ishr
  rw [Int.toNat_natCast, Nat.min_eq_left hk, Nat.shiftRight_eq_div_pow]
  have : (2 : Int) ^ k = ((2 ^ k : Nat) : Int) := by rw [Int.natCast_pow]; rfl
  rw [this]
  exact Int.ofNat_fdiv a (2 ^ k) |>.symm
end Go.Proofs.YtmlikmldfdgmcaaGreat
namespace Go.Proofs.YtmlikmldfdgmcaaGreat
theorem chk_one {v : Vx} : chkV [v] = 0 ↔ rngV v = true := by
  rw [chkV_zero]
  constructor
  · exact fun h => h.2.2.1 v (List.mem_singleton_self v)
  · intro h
    refine ⟨by simp, by simp, fun u hu => ?_, by simp [Asc]⟩
    rw [List.mem_singleton.1 hu]
    exact h
end Go.Proofs.YtmlikmldfdgmcaaGreat
namespace Go.Proofs.YtmlikmldfdgmcaaGreat.M
open Go.RowKit
section
variable {P : Program} {ops : Array Oper} {hp : List HObj} {o : Oper} {fr : List Dat} {d : Dat} {Q : Post} {rest : List Oper}
variable {dst : Option Tmp} {ty : TypeId} {ps : String} {af : Array Edge} {g : Option (Nat × Bool)}
theorem WL.alloc {T : TypeId} {n : Nat} {agg : Bool} {z : Value} (hz : TyZ P T z) (hs : (dX z).Shape n agg)
    (h : ∀ b, WL P ops Q rest (setD fr dst (dX (.pointer (some ⟨b, 0, none⟩)))) (hCell b T n agg (dX z) :: hp)) : WL P ops Q ({ dst := dst, op := .alloc T, type := ty, pos := ps, after := af, guard := none } :: rest) fr hp := by
  refine WL.of fun P0 B w0 w a hh hf => ?_
  obtain ⟨cs, k1, k0, k2, k3, k4⟩ := hs (fun _ => True) w z rfl
  have hrun : (execOp a.eval { dst := dst, op := .alloc T, type := ty, pos := ps, after := af, guard := none }).run P w = .ok (.value (.pointer (some ⟨w.heap.size, 0, none⟩))) (w.alloc (.cells cs.toArray T)) := by
    cases hq : P.info? T with
    | none => have := hz.out; simp [hq] at this
    | some i =>
      have hz' : i.zero = some z := by have := hz.out; simpa [hq] using this
      unfold execOp
      simp [Instr.alloc, zeroValue, typeInfo, hq, hz', newVar, newRow, k3]
  refine wpList_value rfl hrun ?_
  have hx := Ext.of_alloc w (.cells cs.toArray T)
  have hb : ∀ k, (hCell w.heap.size T n agg (dX z)).blk = some k → w.heap.size ≤ k ∧ k < (w.alloc (.cells cs.toArray T)).heap.size := fun k hk => by
    cases hk
    exact ⟨Nat.le_refl _, by simp⟩
  refine (h w.heap.size).on ⟨hh.h.push hx.b hb ⟨cs, z, alloc_get w _, k1, k0, k2, k4, rfl⟩, hh.d⟩ ?_
  exact Fr.put (hf.mono fun d _ hd => Hp.pushed hx.b (fun k hk => (hb k hk).1) hd) rfl

theorem WL.storeK {x : Operand} {t b n : Nat} {T T2 : TypeId} {agg : Bool} {d0 : Dat} (hT : TyI P T n agg) (hp0 : OpD fr (.tmp t) (dX (.pointer (some ⟨b, 0, none⟩)))) (hx : OpD fr x d) (hs : d.Shape n agg)
    (h : WL P ops Q rest (setD fr dst (dX undef)) (hCell b T2 n agg d :: hp)) : WL P ops Q ({ dst := dst, op := .store T (.tmp t) x, type := ty, pos := ps, after := af, guard := none } :: rest) fr (hCell b T2 n agg d0 :: hp) := by
  refine WL.of fun P0 B w0 w a hh hf => ?_
  obtain ⟨cs, u, c1, c2, c0, c3, c4, c5⟩ := hh.h.ok (hCell b T2 n agg d0) (by simp)
  have h1 := hx.ev hf
  obtain ⟨cs', k1, k0, k2, k3, k4⟩ := hs _ _ _ h1
  have h2 : a.eval (.tmp t) = .pointer (some ⟨b, 0, none⟩) := hp0.ev hf
  have hr := run_storeC (u := a.eval x) hT.size c1 c2 k1 k2 k3
  have hrun : (execOp a.eval { dst := dst, op := .store T (.tmp t) x, type := ty, pos := ps, after := af, guard := none }).run P w = .ok .skip (w.setRow b cs'.toArray) := by
    unfold execOp
    simp only [h2, Sem.run_bind, hr, Result.andThen_ok, Sem.run_pure]
  refine wpList_plain rfl fun K hK => ?_
  unfold Oper.wp
  rw [hrun]
  have hgr : w.grownBy (w.setRow b cs'.toArray) (hCell b T2 n agg d0).blk := grown_setRow
  have hok : (hCell b T2 n agg d).ok (fun k => Imm P0 B (hCell b T2 n agg d0 :: hp) k ∧ k < w.heap.size) (w.setRow b cs'.toArray) :=
    ⟨cs', a.eval x, setRow_heap w b _ _ _ _ c1, k1, k0, k2, k4, d.grown (d.bound h1) hgr (fun k hk hc => hc.1.2 _ (by simp) hk)⟩
  exact hK _ _ (h.on ⟨hh.h.write hgr (.inl rfl) hok, hh.d⟩ (Fr.put (hf.mono fun _ _ hd => Hp.written (o' := hCell b T2 n agg d) hgr (.inl rfl) hd) (d := dX undef) rfl))
theorem WL.freeze {t b n : Nat} {T : TypeId} {agg : Bool} (hp0 : fr[t]? = some (dX (.pointer (some ⟨b, 0, none⟩)))) (h : WL P ops Q rest (fr.set t (dP n agg d)) hp) : WL P ops Q rest fr (hCell b T n agg d :: hp) := by
  refine WL.of fun P0 B w0 w a hh hf => ?_
  obtain ⟨cs, u, c1, c2, c0, c3, c4, c5⟩ := hh.h.ok (hCell b T n agg d) (by simp)
  have hown := hh.h.own (hCell b T n agg d) (by simp) b rfl
  refine h.on ⟨hh.h.drop, hh.d⟩ ⟨hf.defers, by rw [hf.size, List.length_set], fun t' d' hd' => ?_⟩
  by_cases htt : t = t'
  · subst htt
    rw [List.getElem?_set] at hd'
    simp only [if_true] at hd'
    split at hd'
    · cases hd'
      have hv : a.tmps.getD t undef = .pointer (some ⟨b, 0, none⟩) := hf.rd t _ hp0
      rw [hv]
      refine ⟨b, 0, u, rfl, cells_of_obj c1 c2 c0 c3 c4 ⟨.inr hown.1, fun o' ho' hk => ?_⟩, d.weak c5 Imm.sub⟩
      exact (List.pairwise_cons.1 hh.h.apart).1 o' ho' b rfl hk
    · cases hd'
  · rw [List.getElem?_set_ne htt] at hd'
    exact d'.weak (hf.rd t' d' hd') Imm.sub
theorem WL.storeF {x : Operand} {t b n : Nat} {T T2 : TypeId} {agg : Bool} {d0 : Dat} (hT : TyI P T n agg) (hp0 : fr[t]? = some (dX (.pointer (some ⟨b, 0, none⟩)))) (hx : OpD fr x d) (hs : d.Shape n agg)
    (h : WL P ops Q rest (fr.set t (dP n agg d)) hp) : WL P ops Q ({ dst := none, op := .store T (.tmp t) x, type := ty, pos := ps, after := af, guard := none } :: rest) fr (hCell b T2 n agg d0 :: hp) :=
  WL.storeK hT (OpD.t hp0) hx hs (WL.freeze hp0 h)
end
end Go.Proofs.YtmlikmldfdgmcaaGreat.M
namespace Go.Proofs.YtmlikmldfdgmcaaGreat.M
open Go.RowKit

set_option maxHeartbeats 4000000 in
theorem cmpF_p (a b : List Vx) : Fn Tryz.prog 71 [dS Verts a, dS Verts b, dFun Tryz.prog (fun x : Vx × Vx => [dS RV x.1, dS RV x.2]) (fun x => dI (cmpV x.1 x.2))] (dI (cmpL a b)) := by
  (refine Fn.intro1 Tryz.func71 rfl rfl ?_; simp only [Tryz.ntmps71, List.length_cons, List.length_nil, Nat.reduceAdd, Nat.reduceSub, List.replicate_succ, List.replicate_zero, List.cons_append, List.nil_append])
  (repeat' (first | (apply WL.opG; (focus (apply SYG.yes; (exact want_none rfl); (first | (apply SY.move <;> (exact oD)) | (apply SY.assign <;> (exact oD)) | (apply SY.load; (exact tD); (exact OpD.t rfl))))); dsimp only [setD, z0, z1]) | refine WL.nil ?_ | refine WC.seqK fun Kx hK => ?_ | (refine hK _ _ ?_; clear hK) | refine WC.region ?_ | (apply WL.opG; (focus (apply SYG.yes; (exact want_none rfl); ((first | (apply SY.len; (exact oD); (exact nD); (exact uD)) | fail); all_goals infer_instance))); dsimp only [setD, z0, z1]) | refine WC.block ?_))
  (first | refine WC.know (t := 0) rfl le_K fun hl0 => ?_ | refine WC.know (t := 0) rfl le_A fun hl0 => ?_); simp only [maxLen] at hl0
  (first | refine WC.know (t := 1) rfl le_K fun hl1 => ?_ | refine WC.know (t := 1) rfl le_A fun hl1 => ?_); simp only [maxLen] at hl1
  (refine WC.loopU (X := Nat) (fun k => [(13, dI (k : Int)), (6, dA), (7, dA), (8, dA), (9, dA), (10, dA), (14, dA), (15, dA), (16, dA), (17, dA), (18, dA), (19, dA), (20, dA), (21, dA), (22, dA), (23, dA), (24, dA), (25, dA), (26, dA), (27, dA), (28, dA), (29, dA), (30, dA), (31, dA), (32, dA), (33, dA)]) (fun k => []) (fun k => a.length - k) (fun k => k ≤ a.length ∧ k ≤ b.length ∧ cmpL a b = cmpL (a.drop k) (b.drop k)) 0 ?start ?frame0 ?objs0 ?round)
  case start => exact ⟨Nat.zero_le _, Nat.zero_le _, rfl⟩
  case frame0 => ((try dsimp only [upds, z0, z1]); repeat (first | exact LeF.nil | refine LeF.co (k := ?_)))
  case objs0 => rfl
  case round =>
    rintro k ⟨h1, h2, h3⟩
    dsimp only [upds, z0, z1]
    ((repeat' (first | (apply WL.opG; (focus (apply SYG.yes; (exact want_none rfl); (first | (apply SY.move <;> (exact oD)) | (apply SY.assign <;> (exact oD)) | (apply SY.load; (exact tD); (exact OpD.t rfl))))); dsimp only [setD, z0, z1]) | refine WL.nil ?_ | refine WC.seqK fun Kx hK => ?_ | (refine hK _ _ ?_; clear hK) | (refine Kont.skip ?_; clear hK) | refine WC.region ?_ | (apply WL.alloc; (exact tzV); (first | exact shape_X rfl | exact shape_XV); (intro _; dsimp only [setD, z0, z1])) | (apply WL.storeF; (exact tD); rfl; (exact oD); (exact hD); dsimp only [setD, z0, z1]) | (apply WL.opG; (focus (apply SYG.yes; (exact want_none rfl); ((first | (apply SY.dynF (x := ((a[k], b[k]) : Vx × Vx)); (exact OpD.t rfl); (exact aD)) | ((first | apply SY.move | apply SY.assign | apply SY.lss | apply SY.geq | apply SY.neq) <;> (exact oD)) | ((first | apply SY.add) <;> first | exact oD | omega) | (apply SY.len; (exact oD); (exact nD); (exact uD)) | (apply SY.ixK; (exact eD); (exact oD); (exact oD); exact kD) | fail); all_goals infer_instance))); dsimp only [setD, z0, z1]) | (apply WC.condD; (exact oD); (all_goals intro h); (all_goals try (exfalso; first | omega | contradiction))) | (apply WC.condN; (exact oD); (all_goals intro h); (all_goals try (exfalso; first | omega | contradiction))) | refine WC.skip ?_ | refine WC.ret ?_ | refine WC.exit ?_ | refine WC.block ?_ | refine ThenD.n ?_ | refine ThenD.r ?_ | refine InBlockD.r ?_)); all_goals (first | ((repeat clear hK); (repeat clear Kx))))
    all_goals first
      | ((refine ⟨k + 1, ?_, by first | omega | (simp only; omega), rfl, ?_⟩; rotate_left; ((try dsimp only [upds, z0, z1]); repeat (first | exact LeF.nil | refine LeF.co (k := ?_))); (try dsimp only)); exact ⟨by omega, by omega, h3.trans (cmpL_step (by omega) (by omega) (by assumption))⟩)
      | ((refine ⟨trivial, _, rfl, ?_⟩; refine FinD.i ?_); rw [h3, cmpL_drop]; repeat' split) <;> first | rfl | contradiction | omega
theorem cmpL_p (a b : List Vx) : Fn Tryz.prog 42 [dS Verts a, dS Verts b] (dI (cmpL a b)) := by
  (refine Fn.intro1 Tryz.func42 rfl rfl ?_; simp only [Tryz.ntmps42, List.length_cons, List.length_nil, Nat.reduceAdd, Nat.reduceSub, List.replicate_succ, List.replicate_zero, List.cons_append, List.nil_append])
  ((repeat' (first | (apply WL.opG; (focus (apply SYG.yes; (exact want_none rfl); (first | (apply SY.move <;> (exact oD)) | (apply SY.assign <;> (exact oD))))); dsimp only [setD, z0, z1]) | refine WL.nil ?_ | refine WC.seqK fun Kx hK => ?_ | (refine hK _ _ ?_; clear hK) | refine WC.region ?_ | (apply WL.opG; (focus (apply SYG.yes; (exact want_none rfl); ((first | (apply SY.call (cmpF_p _ _) Tryz.call71; (exact aD)) | fail); all_goals infer_instance))); dsimp only [setD, z0, z1]) | refine WC.ret ?_)); all_goals (first | ((repeat clear hK); (repeat clear Kx))))
  all_goals ((refine ⟨trivial, _, rfl, ?_⟩; refine FinD.i ?_); try rfl)
theorem cmpL_x {I : Nat → Prop} {w : World} {u v : Value} {a b : List Vx} (hu : Verts I w u a) (hv : Verts I w v b) : Calls Tryz.prog 42 #[u, v] w fun e w' => e = .returned (.int .i64 (cmpL a b)) ∧ ∃ q os', w' = Go.Sort.grow (w.drewN q) os' := by
  have := (cmpL_p a b).out I w [u, v] rfl (fun i d hd => by
    match i with
    | 0 => cases hd; exact hu
    | 1 => cases hd; exact hv
    | i + 2 => simp at hd)
  exact this.mono fun e w' ⟨v, h1, h2, h3⟩ => ⟨by rw [h1]; exact congrArg _ h3, h2.grow⟩
end Go.Proofs.YtmlikmldfdgmcaaGreat.M
namespace Go.Proofs.YtmlikmldfdgmcaaGreat.M
open Go.RowKit

section
variable {P : Program} {ops : Array Oper} {hp : List HObj} {fr : List Dat} {dst : Option Tmp} {ty : TypeId} {ps : String} {af : Array Edge} {g : Option (Nat × Bool)} {t e : TypeId} {n bytes : Nat} {z : Value} {ag : Bool}
theorem SY.buildE (E : ElT P t e n z bytes ag) {α : Type} {R : Rel α} {_gR : Good R} {len : Nat} {parts : Array (Nat × Operand)} {els : List α} (hx : ElsD fr R (parts.toList.map Prod.snd) els) (hparts : parts.toList = ((parts.toList.map Prod.snd).zipIdx).map (fun p => (p.2, p.1))) (hl : len = els.length) (hn : 0 < n) (hs : ∀ a, (dS R a).Shape n true) (hsm : els.length * n ≤ 16777216) :
    SY P ops hp { dst := dst, op := .buildSlice t len parts, type := ty, pos := ps, after := af, guard := g } fr (dS (ArrK n R) els) := SY.buildK E hx hparts hl hn hs hsm
end
theorem cmpL_one (x y : Vx) : cmpL [x] [y] = cmpV x y := by
  unfold cmpL
  by_cases h : cmpV x y = 0
  · rw [if_pos h, h]; rfl
  · rw [if_neg h]
theorem vtx_p (x y : Vx) : Fn Tryz.prog 53 [dS RV x, dS RV y] (dI (cmpV x y)) := by
  (refine Fn.intro1 Tryz.func53 rfl rfl ?_; simp only [Tryz.ntmps53, List.length_cons, List.length_nil, Nat.reduceAdd, Nat.reduceSub, List.replicate_succ, List.replicate_zero, List.cons_append, List.nil_append])
  ((repeat' (first | (apply WL.opG; (focus (apply SYG.yes; (exact want_none rfl); (first | (apply SY.assign <;> (exact oD)) | (apply SY.load; (exact tD); (exact OpD.t rfl))))); dsimp only [setD, z0, z1]) | refine WL.nil ?_ | refine WC.seqK fun Kx hK => ?_ | (refine hK _ _ ?_; clear hK) | refine WC.region ?_ | (apply WL.opG; (focus (apply SYG.yes; (exact want_none rfl); ((first | (apply SY.call (cmpL_p [x] [y]) Tryz.call42; (exact aD)) | (apply SY.buildE; (exact eD); ((try simp only [List.map_cons, List.map_nil]); (repeat (first | exact ElsD.nl | (apply ElsD.cn; (first | exact OpD.t rfl | exact OpD.i | exact OpD.b | exact OpD.tle rfl (by first | exact Dat.le_nil | exact Dat.le_nilK (by decide)) | exact ⟨Dat.le_nil⟩ | exact ⟨Dat.le_nilK (by decide)⟩))))); rfl; rfl; decide; (intro _; exact shape_V); (exact (by simp))) | (apply SY.box; (exact oD); (exact hD)) | fail); all_goals infer_instance))); dsimp only [setD, z0, z1]) | refine WC.ret ?_)); all_goals (first | ((repeat clear hK); (repeat clear Kx))))
  all_goals (rw [cmpL_one]; (refine ⟨trivial, _, rfl, ?_⟩; refine FinD.i ?_); try rfl)
theorem vtx_x (x y : Vx) (w : World) : Calls Tryz.prog 53 #[.agg #[.int .i64 x.1, .int .i64 x.2], .agg #[.int .i64 y.1, .int .i64 y.2]] w fun e w' => e = .returned (.int .i64 (cmpV x y)) ∧ ∃ q os', w' = Go.Sort.grow (w.drewN q) os' := by
  have := (vtx_p x y).out (fun _ => True) w [.agg #[.int .i64 x.1, .int .i64 x.2], .agg #[.int .i64 y.1, .int .i64 y.2]] rfl (fun i d hd => by
    match i with
    | 0 => cases hd; rfl
    | 1 => cases hd; rfl
    | i + 2 => simp at hd)
  exact this.mono fun e w' ⟨v, h1, h2, h3⟩ => ⟨by rw [h1]; exact congrArg _ h3, h2.grow⟩
end Go.Proofs.YtmlikmldfdgmcaaGreat.M
namespace Go.Proofs.YtmlikmldfdgmcaaGreat
theorem cmpL_lt_trans {a b c : List Vx} (h : cmpL a b < 0) (k : cmpL b c < 0) : cmpL a c < 0 := by
  obtain ⟨h1, h2⟩ := cmpL_trans a b c (by omega) (by omega)
  rcases Int.lt_or_eq_of_le h1 with h3 | h3
  · exact h3
  · have := h2 h3; omega
theorem cmpL_irr (a : List Vx) : cmpL a a = 0 := cmpL_eq.2 rfl
theorem cmpL_cases (a b : List Vx) : cmpL a b < 0 ∨ cmpL b a < 0 ∨ a = b := by
  have h := cmpL_neg a b
  by_cases h1 : cmpL a b < 0
  · exact .inl h1
  by_cases h2 : cmpL b a < 0
  · exact .inr (.inl h2)
  · exact .inr (.inr (cmpL_eq.1 (by omega)))
def SortL (xs : Cx) : Prop := xs.Pairwise fun a b => ¬ cmpL b a < 0
def AscL (xs : Cx) : Prop := xs.Pairwise fun a b => cmpL a b < 0
theorem ascL_ext : ∀ {a b : Cx}, AscL a → AscL b → (∀ x, x ∈ a ↔ x ∈ b) → a = b
  | [], [], _, _, _ => rfl
  | [], y :: b, _, _, h => absurd ((h y).2 (by simp)) (by simp)
  | x :: a, [], _, _, h => absurd ((h x).1 (by simp)) (by simp)
  | x :: a, y :: b, ha, hb, h => by
    unfold AscL at ha hb
    rw [List.pairwise_cons] at ha hb
    have hxy : x = y := by
      have h1 := (h x).1 (by simp)
      have h2 := (h y).2 (by simp)
      rw [List.mem_cons] at h1 h2
      rcases h1 with h1 | h1
      · exact h1
      rcases h2 with h2 | h2
      · exact h2.symm
      have h3 := hb.1 x h1
      have h4 := ha.1 y h2
      have := cmpL_neg x y
      omega
    subst hxy
    rw [ascL_ext ha.2 hb.2 fun z => ?_]
    have h1 := h z
    rw [List.mem_cons, List.mem_cons] at h1
    constructor
    · intro hz
      rcases h1.1 (.inr hz) with rfl | h2
      · have := ha.1 z hz; have := cmpL_irr z; omega
      · exact h2
    · intro hz
      rcases h1.2 (.inr hz) with rfl | h2
      · have := hb.1 z hz; have := cmpL_irr z; omega
      · exact h2
theorem AscL.nodup {a : Cx} (h : AscL a) : a.Nodup := List.Pairwise.imp (fun {x y} hxy hc => by
  subst hc; have := cmpL_irr x; omega) h
def GoodL (xs : Cx) (m : Nat) (zs : Cx) : Prop := AscL zs ∧ (∀ v, v ∈ zs ↔ v ∈ xs.take m) ∧ zs.getLast? = xs[m - 1]?
theorem ascL_last {zs : Cx} {l : List Vx} (h : AscL zs) (hl : zs.getLast? = some l) : ∀ a ∈ zs, a = l ∨ cmpL a l < 0 := by
  obtain ⟨ys, rfl⟩ := List.getLast?_eq_some_iff.1 hl
  intro a ha
  rcases List.mem_append.1 ha with ha | ha
  · exact .inr ((List.pairwise_append.1 h).2.2 a ha l (by simp))
  · exact .inl (by simpa using ha)
theorem goodL_start {xs : Cx} (h : 1 ≤ xs.length) : GoodL xs 1 (xs.take 1) := by
  match xs, h with
  | x :: l, _ => exact ⟨by simp [AscL], fun v => Iff.rfl, by simp⟩
theorem goodL_push {xs zs : Cx} {m : Nat} (hs : SortL xs) (h : GoodL xs m zs) (h1 : 1 ≤ m) (h2 : m < xs.length) (hne : xs[m] ≠ xs[m - 1]'(by omega)) : GoodL xs (m + 1) (zs ++ [xs[m]]) := by
  obtain ⟨ha, hm, hl⟩ := h
  rw [List.getElem?_eq_getElem (by omega : m - 1 < xs.length)] at hl
  have hlt : cmpL (xs[m - 1]'(by omega)) xs[m] < 0 := by
    have h3 := (List.pairwise_iff_getElem.1 hs) (m - 1) m (by omega) h2 (by omega)
    rcases cmpL_cases (xs[m - 1]'(by omega)) xs[m] with k | k | k
    · exact k
    · exact absurd k h3
    · exact absurd k.symm hne
  refine ⟨List.pairwise_append.2 ⟨ha, by simp, fun a haz b hb => ?_⟩, fun v => ?_, by simp [h2]⟩
  · have hb' : b = xs[m] := by simpa using hb
    subst hb'
    rcases ascL_last ha hl a haz with rfl | h4
    · exact hlt
    · exact cmpL_lt_trans h4 hlt
  · rw [List.mem_append, hm, mem_take_snoc h2]; simp
theorem goodL_skip {xs zs : Cx} {m : Nat} (h : GoodL xs m zs) (h1 : 1 ≤ m) (h2 : m < xs.length) (he : xs[m] = xs[m - 1]'(by omega)) : GoodL xs (m + 1) zs := by
  obtain ⟨ha, hm, hl⟩ := h
  refine ⟨ha, fun v => ?_, ?_⟩
  · rw [hm, mem_take_snoc h2]
    refine ⟨.inl, fun h => h.elim id fun h => ?_⟩
    rw [h, he, List.mem_take_iff_getElem]
    exact ⟨m - 1, by omega, rfl⟩
  · rw [hl, Nat.add_sub_cancel, List.getElem?_eq_getElem h2, List.getElem?_eq_getElem (by omega), he]
theorem goodL_end {xs zs : Cx} {m : Nat} (h : GoodL xs m zs) (h2 : xs.length ≤ m) : AscL zs ∧ ∀ v, v ∈ zs ↔ v ∈ xs := ⟨h.1, fun v => by rw [h.2.1, List.take_of_length_le h2]⟩
theorem insC_mem : ∀ {l : Cx} {s x : List Vx}, x ∈ insC l s ↔ x = s ∨ x ∈ l
  | [], s, x => by simp [insC]
  | y :: l, s, x => by
    unfold insC
    split
    · simp
    · rw [List.mem_cons, insC_mem, List.mem_cons]
      constructor
      · rintro (h | h | h) <;> simp [h]
      · rintro (h | h | h) <;> simp [h]
theorem putC_mem {l : Cx} {s x : List Vx} : x ∈ putC l s ↔ x = s ∨ x ∈ l := by
  unfold putC
  split
  · rename_i h
    exact ⟨.inr, fun h' => h'.elim (fun e => e ▸ h) id⟩
  · exact insC_mem
theorem insC_asc : ∀ {l : Cx} {s : List Vx}, AscL l → s ∉ l → AscL (insC l s)
  | [], s, _, _ => by simp [insC, AscL]
  | y :: l, s, h, hs => by
    have h' := h
    unfold AscL at h'
    rw [List.pairwise_cons] at h'
    unfold insC
    split
    · rename_i hlt
      unfold AscL
      rw [List.pairwise_cons]
      refine ⟨fun a ha => ?_, h⟩
      rcases List.mem_cons.1 ha with rfl | ha
      · exact hlt
      · exact cmpL_lt_trans hlt (h'.1 a ha)
    · rename_i hlt
      unfold AscL
      rw [List.pairwise_cons]
      refine ⟨fun a ha => ?_, insC_asc h'.2 fun hc => hs (by simp [hc])⟩
      rcases insC_mem.1 ha with rfl | ha
      · rcases cmpL_cases a y with k | k | k
        · exact absurd k hlt
        · exact k
        · exact absurd (by rw [k]; simp) hs
      · exact h'.1 a ha
theorem putC_asc {l : Cx} {s : List Vx} (h : AscL l) : AscL (putC l s) := by
  unfold putC
  split
  · exact h
  · rename_i hs; exact insC_asc h hs
theorem foldPut_asc : ∀ {l out : Cx}, AscL out → AscL (l.foldl putC out)
  | [], _, h => h
  | s :: l, out, h => foldPut_asc (l := l) (putC_asc h)
theorem foldPut_mem : ∀ {l out : Cx} {x : List Vx}, x ∈ l.foldl putC out ↔ x ∈ l ∨ x ∈ out
  | [], out, x => by simp
  | s :: l, out, x => by
    rw [List.foldl_cons, foldPut_mem (l := l), putC_mem, List.mem_cons]
    constructor
    · rintro (h | h | h) <;> simp [h]
    · rintro ((h | h) | h) <;> simp [h]
theorem maxC_asc (l : Cx) : AscL (maxC l) := foldPut_asc (by simp [AscL])
theorem maxC_mem {l : Cx} {s : List Vx} : s ∈ maxC l ↔ s ∈ l ∧ topC l s = true := by
  unfold maxC
  rw [foldPut_mem, List.mem_filter]
  simp
theorem coveredC_iff {l : Cx} {s : List Vx} : coveredC l s = true ↔ ∃ x ∈ l, s.length < x.length ∧ insideV s x = true := by
  unfold coveredC
  simp
theorem coveredC_same {l l' : Cx} (h : ∀ x, x ∈ l ↔ x ∈ l') (s : List Vx) : coveredC l s = coveredC l' s := by
  rw [Bool.eq_iff_iff, coveredC_iff, coveredC_iff]
  constructor
  · rintro ⟨x, hx, hr⟩; exact ⟨x, (h x).1 hx, hr⟩
  · rintro ⟨x, hx, hr⟩; exact ⟨x, (h x).2 hx, hr⟩
theorem maxC_eq {l zs : Cx} (h0 : ∀ s ∈ l, 0 < s.length) (ha : AscL zs) (hm : ∀ u, u ∈ zs ↔ u ∈ l) : (zs.filter fun s => !coveredC zs s) = maxC l := by
  refine ascL_ext (List.Pairwise.filter _ ha) (maxC_asc l) fun s => ?_
  rw [List.mem_filter, maxC_mem, hm]
  unfold topC
  rw [coveredC_same hm]
  constructor
  · rintro ⟨h1, h2⟩; exact ⟨h1, by rw [decide_eq_true (h0 s h1)]; exact h2⟩
  · rintro ⟨h1, h2⟩; rw [decide_eq_true (h0 s h1)] at h2; exact ⟨h1, h2⟩
end Go.Proofs.YtmlikmldfdgmcaaGreat
