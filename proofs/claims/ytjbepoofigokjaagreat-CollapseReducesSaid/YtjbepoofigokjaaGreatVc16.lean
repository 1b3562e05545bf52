/-
  Part 16 of the texts that the claims of this seat lean on: walks of the program's functions by contracts over symbolic frames, and plain laws of what they compute. No condition.
-/
import Derived.Ground.NamesProg
import Derived.Ground.SlsfProg
import Derived.Shelf.SlSortCmp.Whole1
import Derived.Test.YtjbepoofigokjaaGreatProg
import Derived.Test.YtjbepoofigokjaaGreatVc8
import Derived.Test.YtjbepoofigokjaaGreatVc10
import Derived.Test.YtjbepoofigokjaaGreatVc11
import Derived.Test.YtjbepoofigokjaaGreatVc12
import Derived.Test.YtjbepoofigokjaaGreatVc15
set_option linter.unusedVariables false
set_option linter.unusedSimpArgs false
set_option linter.unusedSectionVars false
namespace Go.Proofs.YtjbepoofigokjaaGreat
open Go.RowKit
set_option linter.unusedSimpArgs false

set_option maxHeartbeats 2000000
set_option maxRecDepth 100000
theorem putC_o (u : Value) (l : Cx) (s : List Vx) (hl : l.length ≤ 3000000) : CallC Tryz.prog 132 [dX u, dS Verts s] [hRow u 34 Verts l] (fun d hp2 => ∃ v, d = dX v ∧ hp2 = [hRow v 34 Verts (putC l s)]) := by
  refine CallC.drops (K := fun d hp2 => ∃ v w ys, d = dX v ∧ hp2.Perm ([hRow w 34 Verts ys] ++ [hRow v 34 Verts (putC l s)])) ?_ (fun d hp2 ⟨v, w, ys, h1, h2⟩ => ⟨_, _, h2, v, h1, rfl⟩)
  (refine CallC.intro Tryz.func132 rfl rfl (fun hp => ?_); simp only [Tryz.ntmps132, List.length_cons, List.length_nil, List.length_append, List.length_map, Nat.reduceAdd, Nat.reduceSub, List.replicate_succ, List.replicate_zero, List.cons_append, List.nil_append, List.map_cons, List.map_nil, List.append_assoc])
  (repeat' (first | (apply WL.opN; exact yF; dsimp only [setD, z0, z1]) | refine WL.nil ?_ | refine WC.seqK fun Kx hK => ?_ | (refine hK _ _ ?_; clear hK) | refine WC.region ?_ | refine WC.block ?_))
  refine WC.nilRow 34 Verts ?_
  (refine WC.loopU (X := Nat × Bool × Value × Cx) (fun x => [(7, dI (x.1 : Int)), (6, dB x.2.1), (5, dX x.2.2.1), (4, dA), (8, dA), (9, dA), (10, dA), (11, dA), (12, dA), (13, dA), (14, dA), (15, dA), (16, dA), (17, dA), (18, dA), (19, dA), (20, dA), (21, dA), (22, dA), (23, dA), (24, dA), (25, dA), (26, dA), (27, dA), (28, dA), (29, dA), (30, dA), (31, dA), (32, dA), (33, dA), (34, dA), (35, dA), (36, dA), (37, dA), (38, dA), (39, dA), (40, dA)]) (fun x => hRow x.2.2.1 34 Verts x.2.2.2 :: hRow u 34 Verts l :: hp) (fun x => l.length - x.1) (fun x => x.1 ≤ l.length ∧ (∀ y ∈ l.take x.1, cmpL s y ≠ 0) ∧ (x.2.1 = false → x.2.2.2 = l.take x.1 ∧ ∀ y ∈ l.take x.1, ¬ cmpL s y < 0) ∧ (x.2.1 = true → x.2.2.2 ++ l.drop x.1 = insC l s)) (0, false, .slice none 0 0, []) ?start ?frame0 ?objs0 ?round)
  case start => exact ⟨Nat.zero_le _, by simp, by simp, by simp⟩
  case frame0 => ((try dsimp only [upds, z0, z1]); repeat (first | exact LeF.nil | refine LeF.co (k := ?_)))
  case objs0 => rfl
  case round =>
    rintro ⟨k, b, v, o⟩ ⟨h1, h2, h3, h4⟩
    simp only at h1 h2 h3 h4
    have hol : o.length ≤ l.length + 1 := by
      cases b with
      | false => rw [(h3 rfl).1, List.length_take]; omega
      | true =>
        have := congrArg List.length (h4 rfl)
        rw [List.length_append, insC_len] at this
        omega
    dsimp only [upds, z0, z1]
    ((repeat' (first | (apply WL.opN; exact yF; dsimp only [setD, z0, z1]) | refine WL.nil ?_ | refine WC.seqK fun Kx hK => ?_ | (refine hK _ _ ?_; clear hK) | (refine Kont.skip ?_; clear hK) | refine WC.region ?_ | ((first | apply WL.pushK | apply WL.push1); (exact eD); exact OpD.t rfl; (exact oD); (intro _; exact hD); (exact (by simp)); (exact (by simp)); (first | exact ⟨by decide, by decide⟩ | skip); decide; (exact lD); (intro _; dsimp only [setD, z0, z1]); all_goals (try infer_instance)) | (apply WL.opG; (focus (first | exact wN | (apply SYG.yes; (exact wY); ((first | (apply SY.call (cmpL_c _ _) Tryz.call81; (exact aD)) | (apply SY.ixR; exact elSi; exact OpD.t rfl; exact .tail _ (.head _); exact OpD.t rfl; rfl; omega) | (apply SY.loadR; exact tySi; exact OpD.t rfl; exact .tail _ (.head _); omega) | exact yMove | exact yLss | exact yEql | exact yNot | exact yAdd | exact yLen | exact yPick | fail); all_goals infer_instance)))); dsimp only [setD, z0, z1]) | ((first | refine WL.caseP rfl rfl rfl (fun h => ?_) (fun h => ?_) | refine WL.caseN rfl rfl rfl (fun h => ?_) (fun h => ?_) | refine WL.caseB rfl rfl rfl (fun h => ?_) (fun h => ?_)) <;> (first | (exfalso; first | omega | contradiction) | (dsimp only [z0, z1]))) | (apply WC.condF; (exact oD); (with_reducible rfl)) | (apply WC.condD; (exact oD); all_goals (intro h; try exact xD)) | (apply WC.condNB; (exact oD); all_goals (intro h; try exact xD)) | refine WC.skip ?_ | refine WC.ret ?_ | refine WC.exit ?_ | refine WC.block ?_ | refine ThenD.n ?_ | refine ThenD.r ?_ | refine InBlockD.r ?_)); all_goals (first | ((repeat clear hK); (repeat clear Kx))))
    · have hs : s = l[k] := cmpL_eq.1 h
      have e : putC l s = l := if_pos (hs ▸ List.getElem_mem (show k < l.length by omega))
      exact ⟨trivial, _, [_, _], rfl, rfl, u, v, o, rfl, by rw [e]⟩
    · have hb : b = false := by cases b <;> simp_all
      subst hb
      have h0 := h3 rfl
      (refine ⟨(k + 1, true, _, o ++ [s] ++ [l[k]]), ?_, by first | omega | (simp only; omega), rfl, ?_⟩; rotate_left; ((try dsimp only [upds, z0, z1]); repeat (first | exact LeF.nil | refine LeF.co (k := ?_))); (try dsimp only))
      refine ⟨by omega, fun y hy => ?_, (fun e => nomatch e), fun _ => ?_⟩
      · rcases (mem_take_snoc (by omega)).1 hy with h' | rfl
        · exact h2 y h'
        · assumption
      · show o ++ [s] ++ [l[k]] ++ l.drop (k + 1) = insC l s
        rw [insC_cut (by omega) h0.2 (by assumption), h0.1, drop_cons' (show k < l.length by omega)]
        simp
    · have hb : b = false := by cases b <;> simp_all
      subst hb
      have h0 := h3 rfl
      (refine ⟨(k + 1, false, _, o ++ [l[k]]), ?_, by first | omega | (simp only; omega), rfl, ?_⟩; rotate_left; ((try dsimp only [upds, z0, z1]); repeat (first | exact LeF.nil | refine LeF.co (k := ?_))); (try dsimp only))
      refine ⟨by omega, fun y hy => ?_, fun _ => ⟨?_, fun y hy => ?_⟩, (fun e => nomatch e)⟩
      · rcases (mem_take_snoc (by omega)).1 hy with h' | rfl
        · exact h2 y h'
        · assumption
      · rw [h0.1, take_snoc' (by omega)]
      · rcases (mem_take_snoc (by omega)).1 hy with h' | rfl
        · exact h0.2 y h'
        · assumption
    · have hb : b = true := by cases b <;> simp_all
      subst hb
      have h0 := h4 rfl
      (refine ⟨(k + 1, true, _, o ++ [l[k]]), ?_, by first | omega | (simp only; omega), rfl, ?_⟩; rotate_left; ((try dsimp only [upds, z0, z1]); repeat (first | exact LeF.nil | refine LeF.co (k := ?_))); (try dsimp only))
      refine ⟨by omega, fun y hy => ?_, (fun e => nomatch e), fun _ => ?_⟩
      · rcases (mem_take_snoc (by omega)).1 hy with h' | rfl
        · exact h2 y h'
        · assumption
      · show o ++ [l[k]] ++ l.drop (k + 1) = insC l s
        rw [← h0, drop_cons' (show k < l.length by omega)]
        simp
    · subst h
      have h0 := h3 rfl
      rw [List.take_of_length_le (by omega)] at h0 h2
      have hs : s ∉ l := fun hs => h2 s hs (cmpL_eq.2 rfl)
      have e : putC l s = o ++ [s] := by unfold putC; rw [if_neg hs, insC_end h0.2, h0.1]
      exact ⟨trivial, _, [_, _], rfl, rfl, _, _, _, rfl, by rw [e]; exact List.Perm.swap _ _ _⟩
    · subst h
      have h0 := h4 rfl
      rw [List.take_of_length_le (by omega)] at h2
      rw [List.drop_eq_nil_of_le (by omega), List.append_nil] at h0
      have hs : s ∉ l := fun hs => h2 s hs (cmpL_eq.2 rfl)
      have e : putC l s = o := by unfold putC; rw [if_neg hs, h0]
      exact ⟨trivial, _, [_, _], rfl, rfl, _, _, _, rfl, by rw [e]; exact List.Perm.swap _ _ _⟩
def stepA (k : Nat) (out : Cx) (f : List Vx) : Cx := if f.length < k then out else (subsV k f).foldl putC out
theorem allC_eq (c : Cx) (k : Nat) : allC c k = c.foldl (stepA k) [] := rfl
theorem allC_snoc {l : Cx} {k i : Nat} (h : i < l.length) : allC (l.take (i + 1)) k = stepA k (allC (l.take i) k) l[i] := by
  rw [allC_eq, allC_eq, take_snoc' h, List.foldl_append]; rfl
theorem stepA_len {k : Nat} {out : Cx} {f : List Vx} (h : f.length ≤ 8) : (stepA k out f).length ≤ out.length + 256 := by
  unfold stepA
  split
  · omega
  · have h1 := foldPut_len (subsV k f) out
    have h2 := Nat.le_trans (subsV_len k f) (Nat.pow_le_pow_right (by decide) h : 2 ^ f.length ≤ 2 ^ 8)
    omega
theorem allC_len : ∀ (l : Cx) (k i : Nat), (∀ f ∈ l, f.length ≤ 8) → i ≤ l.length → (allC (l.take i) k).length ≤ 256 * i
  | l, k, 0, _, _ => by simp [allC]
  | l, k, i + 1, h, hi => by
    rw [allC_snoc (by omega)]
    have h1 := stepA_len (k := k) (out := allC (l.take i) k) (h _ (List.getElem_mem (show i < l.length by omega)))
    have h2 := allC_len l k i h (by omega)
    omega
theorem all_o (l : Cx) (k : Nat) (hl : l.length ≤ 4096) (hs : ∀ f ∈ l, f.length ≤ 8) (hk : k ≤ 100) : CallC Tryz.prog 98 [dS Cpx l, dI (k : Int)] [] (fun d hp2 => ∃ v, d = dX v ∧ hp2 = [hRow v 34 Verts (allC l k)]) := by
  (refine CallC.intro Tryz.func98 rfl rfl (fun hp => ?_); simp only [Tryz.ntmps98, List.length_cons, List.length_nil, List.length_append, List.length_map, Nat.reduceAdd, Nat.reduceSub, List.replicate_succ, List.replicate_zero, List.cons_append, List.nil_append, List.map_cons, List.map_nil, List.append_assoc])
  (repeat' (first | (apply WL.opN; exact yF; dsimp only [setD, z0, z1]) | refine WL.nil ?_ | refine WC.seqK fun Kx hK => ?_ | (refine hK _ _ ?_; clear hK) | refine WC.region ?_ | (apply WL.opN; (focus ((first | exact yBox | fail); all_goals infer_instance)); dsimp only [setD, z0, z1]) | refine WC.block ?_))
  refine WC.nilRow 34 Verts ?_
  (refine WC.loopU (X := Nat × Value × Cx) (fun x => [(6, dI (x.1 : Int)), (5, dX x.2.1), (7, dA), (8, dA), (9, dA), (10, dA), (11, dA), (12, dA), (13, dA), (14, dA), (15, dA), (16, dA), (17, dA), (18, dA), (19, dA), (20, dA), (21, dA), (22, dA), (23, dA), (24, dA), (25, dA), (26, dA), (27, dA), (28, dA), (29, dA), (30, dA), (31, dA), (32, dA), (33, dA), (34, dA), (35, dA), (36, dA), (37, dA), (38, dA), (39, dA), (40, dA), (41, dA), (42, dA)]) (fun x => hRow x.2.1 34 Verts x.2.2 :: hp) (fun x => l.length - x.1) (fun x => x.1 ≤ l.length ∧ x.2.2 = allC (l.take x.1) k) (0, .slice none 0 0, []) ?start ?frame0 ?objs0 ?round)
  case start => exact ⟨Nat.zero_le _, rfl⟩
  case frame0 => ((try dsimp only [upds, z0, z1]); repeat (first | exact LeF.nil | refine LeF.co (k := ?_)))
  case objs0 => rfl
  case round =>
    rintro ⟨i, v, o⟩ ⟨h1, h2⟩
    simp only at h1 h2
    have hol : o.length ≤ 256 * i := by rw [h2]; exact allC_len l k i hs h1
    dsimp only [upds, z0, z1]
    ((repeat' (first | (apply WL.opN; exact yF; dsimp only [setD, z0, z1]) | refine WL.nil ?_ | refine WC.seqK fun Kx hK => ?_ | (refine hK _ _ ?_; clear hK) | (refine Kont.skip ?_; clear hK) | refine WC.region ?_ | (apply WL.opN; (focus ((first | (apply SY.call (subs_c _ _ (Nat.le_trans (hs _ (List.getElem_mem _)) (by decide)) hk) Tryz.call83; (exact aD)) | exact yLss | exact yGtr | exact yAdd | exact yLen | exact yIndexaddr | exact yFieldaddr | fail); all_goals infer_instance)); dsimp only [setD, z0, z1]) | (apply WC.condD; (exact oD); all_goals (intro h; try exact xD)) | refine WC.skip ?_ | refine WC.ret ?_ | refine WC.exit ?_ | refine WC.block ?_ | refine ThenD.n ?_)); all_goals (first | refine WC.id ?_ | ((repeat clear hK); (repeat clear Kx))))
    · (refine ⟨(i + 1, v, o), ?_, by first | omega | (simp only; omega), rfl, ?_⟩; rotate_left; ((try dsimp only [upds, z0, z1]); repeat (first | exact LeF.nil | refine LeF.co (k := ?_))); (try dsimp only))
      refine ⟨by omega, ?_⟩
      show o = _
      rw [allC_snoc (by omega), ← h2]
      exact (if_pos (by omega)).symm
    · have hb : (subsV k l[i]).length ≤ 256 := Nat.le_trans (subsV_len _ _) (Nat.pow_le_pow_right (by decide) (hs _ (List.getElem_mem (show i < l.length by omega))) : 2 ^ l[i].length ≤ 2 ^ 8)
      (refine WC.loopU (X := Nat × Value × Cx) (fun x => [(8, dI (x.1 : Int)), (5, dX x.2.1), (31, dA), (32, dA), (33, dA), (34, dA), (35, dA), (36, dA), (37, dA), (38, dA), (39, dA), (40, dA), (41, dA), (42, dA)]) (fun x => hRow x.2.1 34 Verts x.2.2 :: hp) (fun x => (subsV k l[i]).length - x.1) (fun x => x.1 ≤ (subsV k l[i]).length ∧ x.2.2 = ((subsV k l[i]).take x.1).foldl putC o) (0, v, o) ?start ?frame0 ?objs0 ?round)
      case start => exact ⟨Nat.zero_le _, rfl⟩
      case frame0 => ((try dsimp only [upds, z0, z1]); repeat (first | exact LeF.nil | refine LeF.co (k := ?_)))
      case objs0 => rfl
      case round =>
        rintro ⟨j, v', o'⟩ ⟨h3, h4⟩
        simp only at h3 h4
        have hol' : o'.length ≤ 3000000 := by
          have := foldPut_len ((subsV k l[i]).take j) o
          rw [List.length_take, Nat.min_eq_left h3, ← h4] at this
          omega
        dsimp only [upds, z0, z1]
        ((repeat' (first | (apply WL.opN; exact yF; dsimp only [setD, z0, z1]) | refine WL.nil ?_ | refine WC.seqK fun Kx hK => ?_ | (refine hK _ _ ?_; clear hK) | (refine Kont.skip ?_; clear hK) | refine WC.region ?_ |  (refine WL.callC (hp1 := [_]) (caps := []) (putC_o _ _ _ hol') Tryz.call132 OpD.f (by (exact aD)) ?_; rintro d' hp2 ⟨v2, rfl, rfl⟩; dsimp only [setD, z0, z1, List.cons_append, List.nil_append]) | (apply WL.opN; (focus ((first | exact yLss | exact yAdd | exact yLen | exact yIndexaddr | fail); all_goals infer_instance)); dsimp only [setD, z0, z1]) | (apply WC.condD; (exact oD); all_goals (intro h; try exact xD)) | refine WC.skip ?_ | refine WC.exit ?_ | refine WC.block ?_ | refine ThenD.n ?_)); all_goals (first | ((repeat clear hK); (repeat clear Kx))))
        · (refine ⟨(j + 1, _, putC o' (subsV k l[i])[j]), ?_, by first | omega | (simp only; omega), rfl, ?_⟩; rotate_left; ((try dsimp only [upds, z0, z1]); repeat (first | exact LeF.nil | refine LeF.co (k := ?_))); (try dsimp only))
          refine ⟨by omega, ?_⟩
          show putC o' _ = _
          rw [foldPut_snoc (by omega), ← h4]
        · (refine ⟨(i + 1, v', o'), ?_, by first | omega | (simp only; omega), rfl, ?_⟩; rotate_left; ((try dsimp only [upds, z0, z1]); repeat (first | exact LeF.nil | refine LeF.co (k := ?_))); (try dsimp only))
          refine ⟨by omega, ?_⟩
          show o' = _
          rw [allC_snoc (by omega), ← h2, h4, List.take_of_length_le (by omega)]
          exact (if_neg (by omega)).symm
    · rw [List.take_of_length_le (by omega)] at h2
      subst h2
      exact ⟨trivial, _, [_], rfl, rfl, _, rfl, rfl⟩
theorem all_c (l : Cx) (k : Nat) (hl : l.length ≤ 4096) (hs : ∀ f ∈ l, f.length ≤ 8) (hk : k ≤ 100) : Fn Tryz.prog 98 [dS Cpx l, dI (k : Int)] (dS Simps (allC l k)) :=
  Fn.ofC (all_o l k hl hs hk) (by rintro d hp2 ⟨v, rfl, rfl⟩; exact FinD.row (.head _))
def simplC (l : Cx) (k : Int) : Cx × Int := if chkC l ≠ 0 then ([], chkC l) else if k < 1 ∨ 8 < k then ([], 2) else if 4096 < (allC l k.toNat).length then ([], 17) else (allC l k.toNat, 0)
theorem shorts {l : Cx} (h : ∀ s ∈ l, chkV s = 0) : ∀ s ∈ l, s.length ≤ 8 := fun s hs => (chkV_zero.1 (h s hs)).2.1
theorem tmod2 (k : Nat) : ((k : Int) + 1).tmod 2 = (((k + 1) % 2 : Nat) : Int) := by rw [Int.tmod_eq_emod_of_nonneg (by omega)]; omega
def eulS (l : Cx) : Nat → Int
  | 0 => 0
  | k + 1 => if (k + 1) % 2 = 1 then eulS l k + (allC l (k + 1)).length else eulS l k - (allC l (k + 1)).length
def eulC (l : Cx) : Int × Int := if chkC l ≠ 0 then (0, chkC l) else if (List.range 8).any (fun k => decide (4096 < (allC l (k + 1)).length)) = true then (0, 17) else (eulS l 8, 0)
theorem eulS_le (l : Cx) (h : ∀ k, (allC l k).length ≤ 2000000) : ∀ k, eulS l k ≤ 2000000 * k ∧ -(2000000 * (k : Int)) ≤ eulS l k
  | 0 => by simp [eulS]
  | k + 1 => by
    have h1 := eulS_le l h k
    have h2 := h (k + 1)
    unfold eulS
    split <;> omega
theorem euler_c (l : Cx) : Fn Tryz.prog 60 [dS Cpx l] (dT [dI (eulC l).1, dI (eulC l).2]) := by
  (refine Fn.intro2 Tryz.func60 rfl rfl ?_; simp only [Tryz.ntmps60, List.length_cons, List.length_nil, Nat.reduceAdd, Nat.reduceSub, List.replicate_succ, List.replicate_zero, List.cons_append, List.nil_append])
  by_cases h0 : chkC l = 0
  · obtain ⟨g1, _, _, g4⟩ := chkC_good h0
    have g5 := shorts g4
    have g6 : ∀ k, (allC l k).length ≤ 2000000 := fun k => by
      have := allC_len l k l.length g5 (Nat.le_refl _)
      rw [List.take_length] at this
      omega
    (repeat' (first | (apply WL.opN; exact yF; dsimp only [setD, z0, z1]) | refine WL.nil ?_ | refine WC.seqK fun Kx hK => ?_ | (refine hK _ _ ?_; clear hK) | refine WC.region ?_ | (apply WL.opN; (focus ((first | (apply SY.call (chk27_c _) Tryz.call44; (exact aD)) | exact yNeq | exact yBox | fail); all_goals infer_instance)); dsimp only [setD, z0, z1]) | (apply WC.condN; (exact oD); all_goals (intro h; try exact xD)) | refine WC.skip ?_ | refine WC.block ?_))
    (refine WC.loopU (X := Nat × Int) (fun x => [(6, dI ((x.1 : Int) + 1)), (5, dI x.2), (2, dA), (3, dA), (7, dA), (13, dA), (14, dA), (15, dA), (16, dA), (17, dA), (18, dA), (19, dA), (20, dA), (21, dA), (22, dA), (23, dA), (24, dA), (25, dA), (26, dA), (27, dA), (28, dA), (29, dA), (30, dA), (31, dA)]) (fun x => []) (fun x => 8 - x.1) (fun x => x.1 ≤ 8 ∧ x.2 = eulS l x.1 ∧ (List.range x.1).any (fun k => decide (4096 < (allC l (k + 1)).length)) = false) (0, 0) ?start ?frame0 ?objs0 ?round)
    case start => exact ⟨Nat.zero_le _, rfl, rfl⟩
    case frame0 => ((try dsimp only [upds, z0, z1]); repeat (first | exact LeF.nil | refine LeF.co (k := ?_)))
    case objs0 => rfl
    case round =>
      rintro ⟨k, m⟩ ⟨h1, h5, h2⟩
      simp only at h1 h2 h5
      have hc : (k : Int) + 1 ≤ 8 → Fn Tryz.prog 98 [dS Cpx l, dI ((k : Int) + 1)] (dS Simps (allC l (k + 1))) := fun h => all_c l (k + 1) g1 g5 (by omega)
      have h3 := eulS_le l g6 k
      rw [← h5] at h3
      have h4 := g6 (k + 1)
      dsimp only [upds, z0, z1]
      ((repeat' (first | (apply WL.opN; exact yF; dsimp only [setD, z0, z1]) | refine WL.nil ?_ | refine WC.seqK fun Kx hK => ?_ | (refine hK _ _ ?_; clear hK) | (refine Kont.skip ?_; clear hK) | refine WC.region ?_ | (apply WL.opN; (focus ((first | (apply SY.call (hc (by assumption)) Tryz.call98; (exact aD)) | exact yLeq | exact yGtr | exact yEql | exact yAdd | exact ySub | exact yRem | exact yLen | fail); all_goals infer_instance)); dsimp only [setD, z0, z1]) | (apply WC.condD; (exact oD); all_goals (intro h; try exact xD)) | refine WC.skip ?_ | refine WC.ret ?_ | refine WC.exit ?_ | refine WC.block ?_ | refine ThenD.n ?_ | refine ThenD.r ?_ | refine InBlockD.r ?_)); all_goals (first | ((repeat clear hK); (repeat clear Kx))))
      · unfold eulC
        rw [if_neg (by omega), if_pos (any_yes (show k < 8 by omega) (decide_eq_true (by omega)))]
        (refine ⟨trivial, ⟨_, rfl, ?_⟩, _, rfl, ?_⟩ <;> exact fD)
      · rw [tmod2] at h
        have h9 : (k + 1) % 2 = 1 := by omega
        (refine ⟨(k + 1, m + (allC l (k + 1)).length), ?_, by first | omega | (simp only; omega), rfl, ?_⟩; rotate_left; ((try dsimp only [upds, z0, z1]); repeat (first | exact LeF.nil | refine LeF.co (k := ?_))); (try dsimp only))
        refine ⟨by omega, ?_, ?_⟩
        · show _ = eulS l (k + 1)
          unfold eulS
          rw [if_pos h9, h5]
        · rw [any_snoc, h2, decide_eq_false (by omega)]; rfl
      · rw [tmod2] at h
        have h9 : ¬ (k + 1) % 2 = 1 := by omega
        (refine ⟨(k + 1, m - (allC l (k + 1)).length), ?_, by first | omega | (simp only; omega), rfl, ?_⟩; rotate_left; ((try dsimp only [upds, z0, z1]); repeat (first | exact LeF.nil | refine LeF.co (k := ?_))); (try dsimp only))
        refine ⟨by omega, ?_, ?_⟩
        · show _ = eulS l (k + 1)
          unfold eulS
          rw [if_neg h9, h5]
        · rw [any_snoc, h2, decide_eq_false (by omega)]; rfl
      · have h9 : k = 8 := by omega
        subst h9
        unfold eulC
        rw [if_neg (by omega), h2, if_neg Bool.false_ne_true, ← h5]
        (refine ⟨trivial, ⟨_, rfl, ?_⟩, _, rfl, ?_⟩ <;> exact fD)
  · have e : eulC l = (0, chkC l) := by unfold eulC; rw [if_pos h0]
    ((repeat' (first | (apply WL.opN; exact yF; dsimp only [setD, z0, z1]) | refine WL.nil ?_ | refine WC.seqK fun Kx hK => ?_ | (refine hK _ _ ?_; clear hK) | refine WC.region ?_ | (apply WL.opN; (focus ((first | (apply SY.call (chk27_c _) Tryz.call44; (exact aD)) | exact yNeq | exact yBox | fail); all_goals infer_instance)); dsimp only [setD, z0, z1]) | (apply WC.condN; (exact oD); all_goals (intro h; try exact xD)) | refine WC.ret ?_ | refine ThenD.r ?_)); all_goals (first | ((repeat clear hK); (repeat clear Kx))))
    all_goals (rw [e]; (refine ⟨trivial, ⟨_, rfl, ?_⟩, _, rfl, ?_⟩ <;> exact fD))
end Go.Proofs.YtjbepoofigokjaaGreat
namespace Go.Proofs.YtjbepoofigokjaaGreat.M
open Go.RowKit
section
variable {P : Program} {ops : Array Oper} {hp : List HObj} {o : Oper} {fr : List Dat} {d : Dat} {Q : Post} {rest : List Oper}
variable {dst : Option Tmp} {ty : TypeId} {ps : String} {af : Array Edge} {g : Option (Nat × Bool)}
theorem WL.alloc {T : TypeId} {n : Nat} {agg : Bool} {z : Value} (hz : TyZ P T z) (hs : (dX z).Shape n agg)
    (h : ∀ b, WL P ops Q rest (setD fr dst (dX (.pointer (some ⟨b, 0, none⟩)))) (hCell b T n agg (dX z) :: hp)) : WL P ops Q ({ dst := dst, op := .alloc T, type := ty, pos := ps, after := af, guard := none } :: rest) fr hp := by
  refine WL.of fun P0 B w0 w a hh hf => ?_
  obtain ⟨cs, k1, k0, k2, k3, k4⟩ := hs (fun _ => True) w z rfl
  have hrun : (execOp a.eval { dst := dst, op := .alloc T, type := ty, pos := ps, after := af, guard := none }).run P w = .ok (.value (.pointer (some ⟨w.heap.size, 0, none⟩))) (w.alloc (.cells cs.toArray T)) := by
    cases hq : P.info? T with
    | none => have := hz.out; simp [hq] at this
    | some i =>
      have hz' : i.zero = some z := by have := hz.out; simpa [hq] using this
      unfold execOp
      simp [Instr.alloc, zeroValue, typeInfo, hq, hz', newVar, newRow, k3]
  refine wpList_value rfl hrun ?_
  have hx := Ext.of_alloc w (.cells cs.toArray T)
  have hb : ∀ k, (hCell w.heap.size T n agg (dX z)).blk = some k → w.heap.size ≤ k ∧ k < (w.alloc (.cells cs.toArray T)).heap.size := fun k hk => by
    cases hk
    exact ⟨Nat.le_refl _, by simp⟩
  refine (h w.heap.size).on ⟨hh.h.push hx.b hb ⟨cs, z, alloc_get w _, k1, k0, k2, k4, rfl⟩, hh.d⟩ ?_
  exact Fr.put (hf.mono fun d _ hd => Hp.pushed hx.b (fun k hk => (hb k hk).1) hd) rfl

theorem WL.storeK {x : Operand} {t b n : Nat} {T T2 : TypeId} {agg : Bool} {d0 : Dat} (hT : TyI P T n agg) (hp0 : OpD fr (.tmp t) (dX (.pointer (some ⟨b, 0, none⟩)))) (hx : OpD fr x d) (hs : d.Shape n agg)
    (h : WL P ops Q rest (setD fr dst (dX undef)) (hCell b T2 n agg d :: hp)) : WL P ops Q ({ dst := dst, op := .store T (.tmp t) x, type := ty, pos := ps, after := af, guard := none } :: rest) fr (hCell b T2 n agg d0 :: hp) := by
  refine WL.of fun P0 B w0 w a hh hf => ?_
  obtain ⟨cs, u, c1, c2, c0, c3, c4, c5⟩ := hh.h.ok (hCell b T2 n agg d0) (by simp)
  have h1 := hx.ev hf
  obtain ⟨cs', k1, k0, k2, k3, k4⟩ := hs _ _ _ h1
  have h2 : a.eval (.tmp t) = .pointer (some ⟨b, 0, none⟩) := hp0.ev hf
  have hr := run_storeC (u := a.eval x) hT.size c1 c2 k1 k2 k3
  have hrun : (execOp a.eval { dst := dst, op := .store T (.tmp t) x, type := ty, pos := ps, after := af, guard := none }).run P w = .ok .skip (w.setRow b cs'.toArray) := by
    unfold execOp
    simp only [h2, Sem.run_bind, hr, Result.andThen_ok, Sem.run_pure]
  refine wpList_plain rfl fun K hK => ?_
  unfold Oper.wp
  rw [hrun]
  have hgr : w.grownBy (w.setRow b cs'.toArray) (hCell b T2 n agg d0).blk := grown_setRow
  have hok : (hCell b T2 n agg d).ok (fun k => Imm P0 B (hCell b T2 n agg d0 :: hp) k ∧ k < w.heap.size) (w.setRow b cs'.toArray) :=
    ⟨cs', a.eval x, setRow_heap w b _ _ _ _ c1, k1, k0, k2, k4, d.grown (d.bound h1) hgr (fun k hk hc => hc.1.2 _ (by simp) hk)⟩
  exact hK _ _ (h.on ⟨hh.h.write hgr (.inl rfl) hok, hh.d⟩ (Fr.put (hf.mono fun _ _ hd => Hp.written (o' := hCell b T2 n agg d) hgr (.inl rfl) hd) (d := dX undef) rfl))
theorem WL.freeze {t b n : Nat} {T : TypeId} {agg : Bool} (hp0 : fr[t]? = some (dX (.pointer (some ⟨b, 0, none⟩)))) (h : WL P ops Q rest (fr.set t (dP n agg d)) hp) : WL P ops Q rest fr (hCell b T n agg d :: hp) := by
  refine WL.of fun P0 B w0 w a hh hf => ?_
  obtain ⟨cs, u, c1, c2, c0, c3, c4, c5⟩ := hh.h.ok (hCell b T n agg d) (by simp)
  have hown := hh.h.own (hCell b T n agg d) (by simp) b rfl
  refine h.on ⟨hh.h.drop, hh.d⟩ ⟨hf.defers, by rw [hf.size, List.length_set], fun t' d' hd' => ?_⟩
  by_cases htt : t = t'
  · subst htt
    rw [List.getElem?_set] at hd'
    simp only [if_true] at hd'
    split at hd'
    · cases hd'
      have hv : a.tmps.getD t undef = .pointer (some ⟨b, 0, none⟩) := hf.rd t _ hp0
      rw [hv]
      refine ⟨b, 0, u, rfl, cells_of_obj c1 c2 c0 c3 c4 ⟨.inr hown.1, fun o' ho' hk => ?_⟩, d.weak c5 Imm.sub⟩
      exact (List.pairwise_cons.1 hh.h.apart).1 o' ho' b rfl hk
    · cases hd'
  · rw [List.getElem?_set_ne htt] at hd'
    exact d'.weak (hf.rd t' d' hd') Imm.sub
theorem WL.storeF {x : Operand} {t b n : Nat} {T T2 : TypeId} {agg : Bool} {d0 : Dat} (hT : TyI P T n agg) (hp0 : fr[t]? = some (dX (.pointer (some ⟨b, 0, none⟩)))) (hx : OpD fr x d) (hs : d.Shape n agg)
    (h : WL P ops Q rest (fr.set t (dP n agg d)) hp) : WL P ops Q ({ dst := none, op := .store T (.tmp t) x, type := ty, pos := ps, after := af, guard := none } :: rest) fr (hCell b T2 n agg d0 :: hp) :=
  WL.storeK hT (OpD.t hp0) hx hs (WL.freeze hp0 h)
end
end Go.Proofs.YtjbepoofigokjaaGreat.M
namespace Go.Proofs.YtjbepoofigokjaaGreat.M
open Go.RowKit

set_option maxHeartbeats 4000000 in
theorem cmpF_p (a b : List Vx) : Fn Tryz.prog 105 [dS Verts a, dS Verts b, dFun Tryz.prog (fun x : Vx × Vx => [dS RV x.1, dS RV x.2]) (fun x => dI (cmpV x.1 x.2))] (dI (cmpL a b)) := by
  (refine Fn.intro1 Tryz.func105 rfl rfl ?_; simp only [Tryz.ntmps105, List.length_cons, List.length_nil, Nat.reduceAdd, Nat.reduceSub, List.replicate_succ, List.replicate_zero, List.cons_append, List.nil_append])
  (repeat' (first | (apply WL.opG; (focus (apply SYG.yes; (exact want_none rfl); (first | (apply SY.move <;> (exact oD)) | (apply SY.assign <;> (exact oD)) | (apply SY.load; (exact tD); (exact OpD.t rfl))))); dsimp only [setD, z0, z1]) | refine WL.nil ?_ | refine WC.seqK fun Kx hK => ?_ | (refine hK _ _ ?_; clear hK) | refine WC.region ?_ | (apply WL.opG; (focus (apply SYG.yes; (exact want_none rfl); ((first | (apply SY.len; (exact oD); (exact nD); (exact uD)) | fail); all_goals infer_instance))); dsimp only [setD, z0, z1]) | refine WC.block ?_))
  (first | refine WC.know (t := 0) rfl le_K fun hl0 => ?_ | refine WC.know (t := 0) rfl le_A fun hl0 => ?_); simp only [maxLen] at hl0
  (first | refine WC.know (t := 1) rfl le_K fun hl1 => ?_ | refine WC.know (t := 1) rfl le_A fun hl1 => ?_); simp only [maxLen] at hl1
  (refine WC.loopU (X := Nat) (fun k => [(13, dI (k : Int)), (6, dA), (7, dA), (8, dA), (9, dA), (10, dA), (14, dA), (15, dA), (16, dA), (17, dA), (18, dA), (19, dA), (20, dA), (21, dA), (22, dA), (23, dA), (24, dA), (25, dA), (26, dA), (27, dA), (28, dA), (29, dA), (30, dA), (31, dA), (32, dA), (33, dA)]) (fun k => []) (fun k => a.length - k) (fun k => k ≤ a.length ∧ k ≤ b.length ∧ cmpL a b = cmpL (a.drop k) (b.drop k)) 0 ?start ?frame0 ?objs0 ?round)
  case start => exact ⟨Nat.zero_le _, Nat.zero_le _, rfl⟩
  case frame0 => ((try dsimp only [upds, z0, z1]); repeat (first | exact LeF.nil | refine LeF.co (k := ?_)))
  case objs0 => rfl
  case round =>
    rintro k ⟨h1, h2, h3⟩
    dsimp only [upds, z0, z1]
    ((repeat' (first | (apply WL.opG; (focus (apply SYG.yes; (exact want_none rfl); (first | (apply SY.move <;> (exact oD)) | (apply SY.assign <;> (exact oD)) | (apply SY.load; (exact tD); (exact OpD.t rfl))))); dsimp only [setD, z0, z1]) | refine WL.nil ?_ | refine WC.seqK fun Kx hK => ?_ | (refine hK _ _ ?_; clear hK) | (refine Kont.skip ?_; clear hK) | refine WC.region ?_ | (apply WL.alloc; (exact tzV); (first | exact shape_X rfl | exact shape_XV); (intro _; dsimp only [setD, z0, z1])) | (apply WL.storeF; (exact tD); rfl; (exact oD); (exact hD); dsimp only [setD, z0, z1]) | (apply WL.opG; (focus (apply SYG.yes; (exact want_none rfl); ((first | (apply SY.dynF (x := ((a[k], b[k]) : Vx × Vx)); (exact OpD.t rfl); (exact aD)) | ((first | apply SY.move | apply SY.assign | apply SY.lss | apply SY.geq | apply SY.neq) <;> (exact oD)) | ((first | apply SY.add) <;> first | exact oD | omega) | (apply SY.len; (exact oD); (exact nD); (exact uD)) | (apply SY.ixK; (exact eD); (exact oD); (exact oD); exact kD) | fail); all_goals infer_instance))); dsimp only [setD, z0, z1]) | (apply WC.condD; (exact oD); (all_goals intro h); (all_goals try (exfalso; first | omega | contradiction))) | (apply WC.condN; (exact oD); (all_goals intro h); (all_goals try (exfalso; first | omega | contradiction))) | refine WC.skip ?_ | refine WC.ret ?_ | refine WC.exit ?_ | refine WC.block ?_ | refine ThenD.n ?_ | refine ThenD.r ?_ | refine InBlockD.r ?_)); all_goals (first | ((repeat clear hK); (repeat clear Kx))))
    all_goals first
      | ((refine ⟨k + 1, ?_, by first | omega | (simp only; omega), rfl, ?_⟩; rotate_left; ((try dsimp only [upds, z0, z1]); repeat (first | exact LeF.nil | refine LeF.co (k := ?_))); (try dsimp only)); exact ⟨by omega, by omega, h3.trans (cmpL_step (by omega) (by omega) (by assumption))⟩)
      | ((refine ⟨trivial, _, rfl, ?_⟩; refine FinD.i ?_); rw [h3, cmpL_drop]; repeat' split) <;> first | rfl | contradiction | omega
theorem cmpL_p (a b : List Vx) : Fn Tryz.prog 66 [dS Verts a, dS Verts b] (dI (cmpL a b)) := by
  (refine Fn.intro1 Tryz.func66 rfl rfl ?_; simp only [Tryz.ntmps66, List.length_cons, List.length_nil, Nat.reduceAdd, Nat.reduceSub, List.replicate_succ, List.replicate_zero, List.cons_append, List.nil_append])
  ((repeat' (first | (apply WL.opG; (focus (apply SYG.yes; (exact want_none rfl); (first | (apply SY.move <;> (exact oD)) | (apply SY.assign <;> (exact oD))))); dsimp only [setD, z0, z1]) | refine WL.nil ?_ | refine WC.seqK fun Kx hK => ?_ | (refine hK _ _ ?_; clear hK) | refine WC.region ?_ | (apply WL.opG; (focus (apply SYG.yes; (exact want_none rfl); ((first | (apply SY.call (cmpF_p _ _) Tryz.call105; (exact aD)) | fail); all_goals infer_instance))); dsimp only [setD, z0, z1]) | refine WC.ret ?_)); all_goals (first | ((repeat clear hK); (repeat clear Kx))))
  all_goals ((refine ⟨trivial, _, rfl, ?_⟩; refine FinD.i ?_); try rfl)
theorem cmpL_x {I : Nat → Prop} {w : World} {u v : Value} {a b : List Vx} (hu : Verts I w u a) (hv : Verts I w v b) : Calls Tryz.prog 66 #[u, v] w fun e w' => e = .returned (.int .i64 (cmpL a b)) ∧ ∃ q os', w' = Go.Sort.grow (w.drewN q) os' := by
  have := (cmpL_p a b).out I w [u, v] rfl (fun i d hd => by
    match i with
    | 0 => cases hd; exact hu
    | 1 => cases hd; exact hv
    | i + 2 => simp at hd)
  exact this.mono fun e w' ⟨v, h1, h2, h3⟩ => ⟨by rw [h1]; exact congrArg _ h3, h2.grow⟩
end Go.Proofs.YtjbepoofigokjaaGreat.M
namespace Go.Proofs
open Go.Shelf
def Tryz.sortS_ren : Go.Shelf.Ren := ⟨fun | 6 => 94 | 15 => 121 | 14 => 130 | 28 => 147 | 29 => 148 | 20 => 152 | 21 => 153 | 22 => 154 | 23 => 155 | 24 => 156 | 25 => 157 | 26 => 158 | 27 => 159 | 46 => 176 | 47 => 172 | 48 => 173 | 49 => 177 | 50 => 178 | 57 => 183 | n => n, fun | 22 => 22 | 24 => 34 | 25 => 100 | 3 => 3 | 39 => 155 | 0 => 0 | 53 => 181 | 55 => 183 | 4 => 4 | 46 => 175 | 45 => 174 | 50 => 110 | 5 => 5 | 9 => 9 | 66 => 197 | 70 => 201 | 76 => 208 | 77 => 95 | n => n, fun | n => n⟩
theorem Tryz.sortS : Go.Proofs.SlLaysF.n6 Tryz.prog Tryz.sortS_ren := {
  mixed := by kernel_rfl
  f6 := ⟨Tryz.f94.name, by decide, Tryz.func94.trans (congrArg some (by kernel_rfl))⟩
  f14 := ⟨Tryz.f130.name, by decide, Tryz.func130.trans (congrArg some (by kernel_rfl))⟩
  f15 := Tryz.func121.trans (congrArg some (by kernel_rfl))
  f20 := ⟨Tryz.f152.name, by decide, Tryz.func152.trans (congrArg some (by kernel_rfl))⟩
  f21 := ⟨Tryz.f153.name, by decide, Tryz.func153.trans (congrArg some (by kernel_rfl))⟩
  f22 := ⟨Tryz.f154.name, by decide, Tryz.func154.trans (congrArg some (by kernel_rfl))⟩
  f23 := ⟨Tryz.f155.name, by decide, Tryz.func155.trans (congrArg some (by kernel_rfl))⟩
  f24 := ⟨Tryz.f156.name, by decide, Tryz.func156.trans (congrArg some (by kernel_rfl))⟩
  f25 := ⟨Tryz.f157.name, by decide, Tryz.func157.trans (congrArg some (by kernel_rfl))⟩
  f26 := ⟨Tryz.f158.name, by decide, Tryz.func158.trans (congrArg some (by kernel_rfl))⟩
  f27 := ⟨Tryz.f159.name, by decide, Tryz.func159.trans (congrArg some (by kernel_rfl))⟩
  f28 := Tryz.func147.trans (congrArg some (by kernel_rfl))
  f29 := Tryz.func148.trans (congrArg some (by kernel_rfl))
  f46 := ⟨Tryz.f176.name, by decide, Tryz.func176.trans (congrArg some (by kernel_rfl))⟩
  f47 := Tryz.func172.trans (congrArg some (by kernel_rfl))
  f48 := Tryz.func173.trans (congrArg some (by kernel_rfl))
  f49 := ⟨Tryz.f177.name, by decide, Tryz.func177.trans (congrArg some (by kernel_rfl))⟩
  f50 := ⟨Tryz.f178.name, by decide, Tryz.func178.trans (congrArg some (by kernel_rfl))⟩
  f57 := ⟨Tryz.f183.name, by decide, Tryz.func183.trans (congrArg some (by kernel_rfl))⟩
  t0 := Tryz.underlying0
  a0 := Tryz.isAgg0
  z0 := Tryz.sizeOf0
  v0 := Tryz.zeroValue0
  t3 := Tryz.underlying3
  a3 := Tryz.isAgg3
  z3 := Tryz.sizeOf3
  v3 := Tryz.zeroValue3
  t4 := Tryz.underlying4
  a4 := Tryz.isAgg4
  z4 := Tryz.sizeOf4
  v4 := Tryz.zeroValue4
  t5 := Tryz.underlying5
  a5 := Tryz.isAgg5
  z5 := Tryz.sizeOf5
  v5 := Tryz.zeroValue5
  t9 := Tryz.underlying9
  a9 := Tryz.isAgg9
  z9 := Tryz.sizeOf9
  v9 := Tryz.zeroValue9
  t22 := Tryz.underlying22
  a22 := Tryz.isAgg22
  z22 := Tryz.sizeOf22
  v22 := Tryz.zeroValue22
  a24 := Tryz.isAgg34
  z24 := Tryz.sizeOf34
  t25 := Tryz.underlying100
  a25 := Tryz.isAgg100
  z25 := Tryz.sizeOf100
  v25 := Tryz.zeroValue100
  t39 := Tryz.underlying155
  a39 := Tryz.isAgg155
  z39 := Tryz.sizeOf155
  v39 := Tryz.zeroValue155
  t45 := Tryz.underlying174
  a45 := Tryz.isAgg174
  z45 := Tryz.sizeOf174
  v45 := Tryz.zeroValue174
  t46 := Tryz.underlying175
  a46 := Tryz.isAgg175
  z46 := Tryz.sizeOf175
  v46 := Tryz.zeroValue175
  t50 := Tryz.underlying110
  a50 := Tryz.isAgg110
  z50 := Tryz.sizeOf110
  v50 := Tryz.zeroValue110
  t53 := Tryz.underlying181
  a53 := Tryz.isAgg181
  z53 := Tryz.sizeOf181
  v53 := Tryz.zeroValue181
  t55 := Tryz.underlying183
  a55 := Tryz.isAgg183
  z55 := Tryz.sizeOf183
  v55 := Tryz.zeroValue183
  t66 := Tryz.underlying197
  a66 := Tryz.isAgg197
  z66 := Tryz.sizeOf197
  v66 := Tryz.zeroValue197
  t70 := Tryz.underlying201
  a70 := Tryz.isAgg201
  z70 := Tryz.sizeOf201
  v70 := Tryz.zeroValue201
  t76 := Tryz.underlying208
  a76 := Tryz.isAgg208
  z76 := Tryz.sizeOf208
  v76 := Tryz.zeroValue208
  t77 := Tryz.underlying95
  a77 := Tryz.isAgg95
  z77 := Tryz.sizeOf95
  v77 := Tryz.zeroValue95 }
end Go.Proofs
