/-
  Part 29 of the texts that the claims of this seat lean on: walks of the program's functions by contracts over symbolic frames, and plain laws of what they compute. No condition.
-/
import Derived.Test.YtgppfikidagfpaaGreatDoorVe10
import Derived.Test.YtgppfikidagfpaaGreatDoorVe24
import Derived.Test.YtgppfikidagfpaaGreatDoorVe28
set_option linter.unusedVariables false
set_option linter.unusedSimpArgs false
set_option linter.unusedSectionVars false
namespace Go.Proofs.YtgppfikidagfpaaGreatDoor
open Go.RowKit
set_option linter.unusedSimpArgs false

set_option maxHeartbeats 2000000
set_option maxRecDepth 100000
theorem FinD.t2 {hp : List HObj} {a b a' b' : Dat} (h : FinD hp a a') (k : FinD hp b b') : FinD hp (dT [a, b]) (dT [a', b']) := FinD.mk fun {P0 B w0 w v} hh hd => by
  obtain ⟨vs, rfl, hl, hv⟩ := hd
  match vs, hl with
  | [x, y], _ =>
    refine ⟨[x, y], rfl, rfl, fun i d u hd hu => ?_⟩
    match i, hd, hu with
    | 0, hd, hu => cases hd; cases hu; exact h.out hh (hv 0 _ _ rfl rfl)
    | 1, hd, hu => cases hd; cases hu; exact k.out hh (hv 1 _ _ rfl rfl)
instance (l : Cx) (k : Nat) : Decidable (tooMany l k) := inferInstanceAs (Decidable (4096 < (allC l k).length))
theorem facesF_p (l : Cx) (k : Nat) (hk : 0 < k) (hg : ∀ s ∈ l, chkV s = 0) (hl : l.length ≤ 1000000) : Fn Tryz.prog 108 [dS Simps l, dI (k : Int)] (dT [dS Simps (if tooMany l k then [] else allC l k), dI (if tooMany l k then 17 else 0)]) :=
  Fn.ofC (faces_o l k hk hg hl) (by
    rintro d hp2 (⟨h, rfl, rfl⟩ | ⟨h, v, rfl, rfl⟩)
    · rw [if_pos h, if_pos h]; exact FinD.t2 (FinD.le Dat.le_nil) (FinD.le (Dat.le_refl _))
    · rw [if_neg h, if_neg h]; exact FinD.t2 (FinD.row (.head _)) (FinD.le (Dat.le_refl _)))
theorem simplices27_p (l : Cx) (k : Int) : Fn Tryz.prog 48 [dS Cpx l, dI k] (dT [dS Simps (simplC l k).1, dI (simplC l k).2]) := by
  (refine Fn.intro2 Tryz.func48 rfl rfl ?_; simp only [Tryz.ntmps48, List.length_cons, List.length_nil, Nat.reduceAdd, Nat.reduceSub, List.replicate_succ, List.replicate_zero, List.cons_append, List.nil_append])
  by_cases h0 : chkC l = 0
  · have hg := goodX_iff.1 h0
    by_cases hk : 1 ≤ k ∧ k ≤ 8
    · have hk' : ((k.toNat : Nat) : Int) = k := by omega
      have hc := facesF_p l k.toNat (by omega) hg.2.2.1 hg.len
      rw [hk'] at hc
      ((repeat' (first | (apply WL.opN; exact yF; dsimp only [setD, z0, z1]) | refine WL.nil ?_ | refine WC.seqK fun Kx hK => ?_ | (refine hK _ _ ?_; clear hK) | refine WC.region ?_ | (apply WL.opG; (focus (first | exact wN | (apply SYG.yes; (exact wY); ((first | (apply SY.call (check_p _) Tryz.call90; (exact aD)) | (apply SY.call (hc) Tryz.call108; (exact aD)) | exact yMove | exact yLss | exact yGtr | exact yNeq | exact yFieldaddr | exact yPick | exact yExtract | exact yBox | fail); all_goals infer_instance)))); dsimp only [setD, z0, z1]) | ((first | refine WL.caseP rfl rfl rfl (fun h => ?_) (fun h => ?_) | refine WL.caseN rfl rfl rfl (fun h => ?_) (fun h => ?_) | refine WL.caseB rfl rfl rfl (fun h => ?_) (fun h => ?_)) <;> (first | (exfalso; first | omega | contradiction) | (dsimp only [z0, z1]))) | (apply WC.condD; (exact oD); all_goals (intro h; try exact xD)) | (apply WC.condN; (exact oD); all_goals (intro h; try exact xD)) | refine WC.skip ?_ | refine WC.ret ?_)); all_goals (first | ((repeat clear hK); (repeat clear Kx))))
      unfold simplC; rw [if_neg (by omega), if_neg (by omega)]
      by_cases ht : tooMany l k.toNat
      · rw [if_pos ht, if_pos ht, if_pos (show 4096 < (allC l k.toNat).length from ht)]; (refine ⟨trivial, ⟨_, rfl, ?_⟩, _, rfl, ?_⟩ <;> exact fD)
      · rw [if_neg ht, if_neg ht, if_neg (show ¬ 4096 < (allC l k.toNat).length from ht)]; (refine ⟨trivial, ⟨_, rfl, ?_⟩, _, rfl, ?_⟩ <;> exact fD)
    · have e : simplC l k = ([], 2) := by unfold simplC; rw [if_neg (by omega), if_pos (by omega)]
      ((repeat' (first | (apply WL.opN; exact yF; dsimp only [setD, z0, z1]) | refine WL.nil ?_ | refine WC.seqK fun Kx hK => ?_ | (refine hK _ _ ?_; clear hK) | refine WC.region ?_ | (apply WL.opG; (focus (first | exact wN | (apply SYG.yes; (exact wY); ((first | (apply SY.call (check_p _) Tryz.call90; (exact aD)) | exact yMove | exact yLss | exact yGtr | exact yNeq | exact yPick | exact yBox | fail); all_goals infer_instance)))); dsimp only [setD, z0, z1]) | ((first | refine WL.caseP rfl rfl rfl (fun h => ?_) (fun h => ?_) | refine WL.caseN rfl rfl rfl (fun h => ?_) (fun h => ?_) | refine WL.caseB rfl rfl rfl (fun h => ?_) (fun h => ?_)) <;> (first | (exfalso; first | omega | contradiction) | (dsimp only [z0, z1]))) | (apply WC.condT; (exact oD); (with_reducible rfl)) | (apply WC.condD; (exact oD); all_goals (intro h; try exact xD)) | (apply WC.condN; (exact oD); all_goals (intro h; try exact xD)) | refine WC.skip ?_ | refine WC.ret ?_ | refine ThenD.r ?_)); all_goals (first | ((repeat clear hK); (repeat clear Kx))))
      all_goals (rw [e]; (refine ⟨trivial, ⟨_, rfl, ?_⟩, _, rfl, ?_⟩ <;> exact fD))
  · have e : simplC l k = ([], chkC l) := by unfold simplC; rw [if_pos h0]
    ((repeat' (first | (apply WL.opN; exact yF; dsimp only [setD, z0, z1]) | refine WL.nil ?_ | refine WC.seqK fun Kx hK => ?_ | (refine hK _ _ ?_; clear hK) | refine WC.region ?_ | (apply WL.opG; (focus (first | exact wN | (apply SYG.yes; (exact wY); ((first | (apply SY.call (check_p _) Tryz.call90; (exact aD)) | exact yNeq | exact yBox | fail); all_goals infer_instance)))); dsimp only [setD, z0, z1]) | (apply WC.condN; (exact oD); all_goals (intro h; try exact xD)) | refine WC.ret ?_ | refine ThenD.r ?_)); all_goals (first | ((repeat clear hK); (repeat clear Kx))))
    all_goals (rw [e]; (refine ⟨trivial, ⟨_, rfl, ?_⟩, _, rfl, ?_⟩ <;> exact fD))
theorem euler27_p (l : Cx) : Fn Tryz.prog 47 [dS Cpx l] (dT [dI (eulC l).1, dI (eulC l).2]) := by
  (refine Fn.intro2 Tryz.func47 rfl rfl ?_; simp only [Tryz.ntmps47, List.length_cons, List.length_nil, Nat.reduceAdd, Nat.reduceSub, List.replicate_succ, List.replicate_zero, List.cons_append, List.nil_append])
  by_cases h0 : chkC l = 0
  · have hg := goodX_iff.1 h0
    have g6 : ∀ k, (allC l k).length ≤ 2000000 := fun k => by
      have := allC_len l k l.length hg.short (Nat.le_refl _)
      rw [List.take_length] at this
      have := hg.1
      omega
    (repeat' (first | (apply WL.opN; exact yF; dsimp only [setD, z0, z1]) | refine WL.nil ?_ | refine WC.seqK fun Kx hK => ?_ | (refine hK _ _ ?_; clear hK) | refine WC.region ?_ | (apply WL.opN; (focus ((first | (apply SY.call (check_p _) Tryz.call90; (exact aD)) | exact yNeq | exact yBox | fail); all_goals infer_instance)); dsimp only [setD, z0, z1]) | (apply WC.condN; (exact oD); all_goals (intro h; try exact xD)) | refine WC.skip ?_ | refine WC.block ?_))
    (refine WC.loopU (X := Nat × Int) (fun x => [(6, dI ((x.1 : Int) + 1)), (5, dI x.2), (2, dA), (3, dA), (7, dA), (8, dA), (14, dA), (15, dA), (16, dA), (17, dA), (18, dA), (19, dA), (20, dA), (21, dA), (22, dA), (23, dA), (24, dA), (25, dA), (26, dA), (27, dA), (28, dA), (29, dA), (30, dA), (31, dA), (32, dA), (33, dA), (34, dA), (35, dA), (36, dA), (37, dA), (38, dA)]) (fun x => []) (fun x => 8 - x.1) (fun x => x.1 ≤ 8 ∧ x.2 = eulS l x.1 ∧ (List.range x.1).any (fun k => decide (4096 < (allC l (k + 1)).length)) = false) (0, 0) ?start ?frame0 ?objs0 ?round)
    case start => exact ⟨Nat.zero_le _, rfl, rfl⟩
    case frame0 => ((try dsimp only [upds, z0, z1]); repeat (first | exact LeF.nil | refine LeF.co (k := ?_)))
    case objs0 => rfl
    case round =>
      rintro ⟨k, m⟩ ⟨h1, h5, h2⟩
      simp only at h1 h2 h5
      have hc : Fn Tryz.prog 108 [dS Simps l, dI ((k : Int) + 1)] (dT [dS Simps (if tooMany l (k + 1) then [] else allC l (k + 1)), dI (if tooMany l (k + 1) then 17 else 0)]) := facesF_p l (k + 1) (by omega) hg.2.2.1 hg.len
      have h3 := eulS_le l g6 k
      rw [← h5] at h3
      have h4 := g6 (k + 1)
      dsimp only [upds, z0, z1]
      by_cases hk8 : k < 8
      · by_cases ht : tooMany l (k + 1)
        · rw [if_pos ht, if_pos ht] at hc
          ((repeat' (first | (apply WL.opN; exact yF; dsimp only [setD, z0, z1]) | refine WL.nil ?_ | refine WC.seqK fun Kx hK => ?_ | (refine hK _ _ ?_; clear hK) | refine WC.region ?_ | (apply WL.opN; (focus ((first | (apply SY.call (hc) Tryz.call108; (exact aD)) | exact yLeq | exact yNeq | exact yFieldaddr | exact yExtract | fail); all_goals infer_instance)); dsimp only [setD, z0, z1]) | (apply WC.condD; (exact oD); all_goals (intro h; try exact xD)) | (apply WC.condN; (exact oD); all_goals (intro h; try exact xD)) | refine WC.skip ?_ | refine WC.ret ?_ | refine WC.block ?_ | refine ThenD.r ?_ | refine InBlockD.r ?_)); all_goals (first | ((repeat clear hK); (repeat clear Kx))))
          unfold eulC
          rw [if_neg (by omega), if_pos (any_yes hk8 (decide_eq_true ht))]
          (refine ⟨trivial, ⟨_, rfl, ?_⟩, _, rfl, ?_⟩ <;> exact fD)
        · rw [if_neg ht, if_neg ht] at hc
          ((repeat' (first | (apply WL.opN; exact yF; dsimp only [setD, z0, z1]) | refine WL.nil ?_ | refine WC.seqK fun Kx hK => ?_ | (refine hK _ _ ?_; clear hK) | refine WC.region ?_ | (apply WL.opN; (focus ((first | (apply SY.call (hc) Tryz.call108; (exact aD)) | exact yLeq | exact yEql | exact yNeq | exact yAdd | exact ySub | exact yRem | exact yLen | exact yFieldaddr | exact yExtract | fail); all_goals infer_instance)); dsimp only [setD, z0, z1]) | (apply WC.condD; (exact oD); all_goals (intro h; try exact xD)) | (apply WC.condN; (exact oD); all_goals (intro h; try exact xD)) | refine WC.skip ?_ | refine WC.block ?_ | refine ThenD.n ?_)); all_goals (first | ((repeat clear hK); (repeat clear Kx))))
          · rw [tmod2] at h
            have h9 : (k + 1) % 2 = 1 := by omega
            (refine ⟨(k + 1, m + (allC l (k + 1)).length), ?_, by first | omega | (simp only; omega), rfl, ?_⟩; rotate_left; ((try dsimp only [upds, z0, z1]); repeat (first | exact LeF.nil | refine LeF.co (k := ?_))); (try dsimp only))
            refine ⟨by omega, ?_, ?_⟩
            · show _ = eulS l (k + 1)
              unfold eulS
              rw [if_pos h9, h5]
            · rw [any_snoc, h2, decide_eq_false (show ¬ 4096 < (allC l (k + 1)).length from ht)]; rfl
          · rw [tmod2] at h
            have h9 : ¬ (k + 1) % 2 = 1 := by omega
            (refine ⟨(k + 1, m - (allC l (k + 1)).length), ?_, by first | omega | (simp only; omega), rfl, ?_⟩; rotate_left; ((try dsimp only [upds, z0, z1]); repeat (first | exact LeF.nil | refine LeF.co (k := ?_))); (try dsimp only))
            refine ⟨by omega, ?_, ?_⟩
            · show _ = eulS l (k + 1)
              unfold eulS
              rw [if_neg h9, h5]
            · rw [any_snoc, h2, decide_eq_false (show ¬ 4096 < (allC l (k + 1)).length from ht)]; rfl
      · ((repeat' (first | (apply WL.opN; exact yF; dsimp only [setD, z0, z1]) | refine WL.nil ?_ | refine WC.seqK fun Kx hK => ?_ | (refine hK _ _ ?_; clear hK) | (refine Kont.skip ?_; clear hK) | refine WC.region ?_ | (apply WL.opN; (focus ((first | exact yLeq | fail); all_goals infer_instance)); dsimp only [setD, z0, z1]) | (apply WC.condD; (exact oD); all_goals (intro h; try exact xD)) | refine WC.ret ?_ | refine WC.exit ?_)); all_goals (first | ((repeat clear hK); (repeat clear Kx))))
        have h9 : k = 8 := by omega
        subst h9
        unfold eulC
        rw [if_neg (by omega), h2, if_neg Bool.false_ne_true, ← h5]
        (refine ⟨trivial, ⟨_, rfl, ?_⟩, _, rfl, ?_⟩ <;> exact fD)
  · have e : eulC l = (0, chkC l) := by unfold eulC; rw [if_pos h0]
    ((repeat' (first | (apply WL.opN; exact yF; dsimp only [setD, z0, z1]) | refine WL.nil ?_ | refine WC.seqK fun Kx hK => ?_ | (refine hK _ _ ?_; clear hK) | refine WC.region ?_ | (apply WL.opN; (focus ((first | (apply SY.call (check_p _) Tryz.call90; (exact aD)) | exact yNeq | exact yBox | fail); all_goals infer_instance)); dsimp only [setD, z0, z1]) | (apply WC.condN; (exact oD); all_goals (intro h; try exact xD)) | refine WC.ret ?_ | refine ThenD.r ?_)); all_goals (first | ((repeat clear hK); (repeat clear Kx))))
    all_goals (rw [e]; (refine ⟨trivial, ⟨_, rfl, ?_⟩, _, rfl, ?_⟩ <;> exact fD))
theorem all_good27 {l : Cx} {k : Nat} (hk : 0 < k) (hg : ∀ s ∈ l, chkV s = 0) : ∀ f ∈ allC l k, chkV f = 0 := fun f hf => by
  obtain ⟨s, hs, hf⟩ := allC_mem.1 hf
  exact (face_good (hg s hs) hk hf).1
end Go.Proofs.YtgppfikidagfpaaGreatDoor
namespace Go.Proofs.YtgppfikidagfpaaGreatDoor
open Go.RowKit
theorem wp_mono2 {P : Program} {o : Oper} {a : Act} {w : World} {K K' : Act → World → Prop} {Q Q' : Exit → Act → World → Prop} (h : ∀ a w, K a w → K' a w) (hq : ∀ e a w, e ≠ .normal → Q e a w → Q' e a w)
    (hh : o.wp P a w K Q) : o.wp P a w K' Q' := by
  have hl : LetsOut Q → LetsOut Q' := fun ⟨a, w, x⟩ => ⟨a, w, hq _ _ _ (by simp) x⟩
  unfold Oper.wp at *
  generalize (execOp a.eval o).run P w = r at *
  cases r with
  | ok n w' =>
    cases n <;> simp only [Oper.upon] at hh ⊢ <;>
      first
        | exact h _ _ hh
        | exact Calls.mono hh (fun e w'' he => by cases e <;> first | exact h _ _ he | exact hq _ _ _ (by simp) he | exact hl he)
        | exact Rows.mono hh (fun _ _ he => h _ _ he)
  | halt x w' => cases x <;> simp only [Oper.upon] at hh ⊢ <;> first | exact hh | exact hq _ _ _ (by simp) hh
structure WA (P : Program) (ops : Array Oper) (Q : Post) (g : Nat) (S : List Bool) (fr : List Dat) (hp : List HObj) : Prop where
  of ::
  out : ∀ (P0 : Nat → Prop) (B : Nat) (w0 w : World) (a : Act), Hp P0 B w0 hp w → Fr (Imm P0 B hp) w a fr → wpAny P .any ops (lift Q P0 B w0) g S.toArray a w
def ThenA (P : Program) (ops : Array Oper) (Q : Post) (g : Nat) (S : List Bool) : Post := fun e f p => match e with | .normal => WA P ops Q g S f p | e => Q e f p
section
variable {P : Program} {ops : Array Oper} {hp : List HObj} {fr : List Dat} {Q : Post} {g : Nat} {S : List Bool}
theorem WA.id (h : WA P ops Q g S fr hp) : WA P ops Q g S fr hp := h
theorem WA.nil (hr : Region.ready .any ops S.toArray = []) (h : Q .normal fr hp) : WA P ops Q 0 S fr hp := WA.of fun _ _ _ _ _ hh hf => ⟨hr, fr, hp, h, hh, hf⟩
theorem WA.step {i : Nat} {o : Oper} (ho : ops[i]? = some o) (h : WL P ops (ThenA P ops Q g (S.set i true)) [o] fr hp) {P0 : Nat → Prop} {B : Nat} {w0 w : World} {a : Act} (hh : Hp P0 B w0 hp w) (hf : Fr (Imm P0 B hp) w a fr) :
    wpOp P ops (lift Q P0 B w0) i (wpAny P .any ops (lift Q P0 B w0) g (S.toArray.setIfInBounds i true)) a w := by
  have h1 := h.on hh hf
  unfold wpList at h1
  unfold wpOp
  simp only [ho]
  have he : S.toArray.setIfInBounds i true = (S.set i true).toArray := by simp
  rw [he]
  have hK : ∀ a' w', wpList P ops (lift (ThenA P ops Q g (S.set i true)) P0 B w0) [] a' w' → wpAny P .any ops (lift Q P0 B w0) g (S.set i true).toArray a' w' := fun a' w' hn => by
    obtain ⟨f, p, q, r, s⟩ := (hn : lift (ThenA P ops Q g (S.set i true)) P0 B w0 .normal a' w')
    exact (q : WA P ops Q g (S.set i true) f p).out _ _ _ _ _ r s
  have hQ : ∀ e a' w', e ≠ .normal → lift (ThenA P ops Q g (S.set i true)) P0 B w0 e a' w' → lift Q P0 B w0 e a' w' := fun e a' w' hne ⟨f, p, q, r, s⟩ => by
    cases e with
    | normal => exact absurd rfl hne
    | _ => exact ⟨f, p, q, r, s⟩
  split
  · rename_i hw
    rw [if_pos hw] at h1
    rcases h1 with h1 | ⟨h1, a2, w2, h2⟩
    · exact .inl (wp_mono2 hK hQ h1)
    · exact .inr ⟨h1, a2, w2, hQ _ _ _ (by simp) h2⟩
  · rename_i hw
    rw [if_neg hw] at h1
    exact hK _ _ h1
theorem WA.one {l : List Oper} {i : Nat} {o : Oper} (hr : Region.ready .any l.toArray S.toArray = [i]) (ho : l[i]? = some o) (h : WL P l.toArray (ThenA P l.toArray Q g (S.set i true)) [o] fr hp) : WA P l.toArray Q (g + 1) S fr hp := WA.of fun P0 B w0 w a hh hf => by
  refine ⟨fun h0 => (by rw [hr] at h0; cases h0), fun j hj => ?_⟩
  rw [hr] at hj
  cases List.mem_singleton.1 hj
  exact WA.step (by simpa using ho) h hh hf
theorem ThenA.n (h : WA P ops Q g S fr hp) : ThenA P ops Q g S .normal fr hp := h
end
end Go.Proofs.YtgppfikidagfpaaGreatDoor
namespace Go.Proofs.YtgppfikidagfpaaGreatDoor
open Go.RowKit
def chainB2 (md : Region.Mode) (ops : Array Oper) (n : Nat) : Bool :=
  (List.range ops.size).all fun t => decide (t ≤ n) || (List.range ops.size).any fun s => decide (n ≤ s) && Region.waitsFor md ops t s
theorem tail_waits2 {md : Region.Mode} {ops : Array Oper} {n : Nat} {listed : Array Bool} (hs : Region.sinkB md ops n = true) (hc : chainB2 md ops n = true) (hn : n < ops.size) (inv : HeadInv md ops n listed) :
    ∀ (d i : Nat), n - i = d → i < n → listed.getD i true = false → ∀ t, n ≤ t → t ∉ Region.ready md ops listed := by
  intro d
  induction d using Nat.strongRecOn with
  | _ d ih =>
    intro i hd hi hun t ht hr
    obtain ⟨_, ot, hot, hall⟩ := mem_ready.1 hr
    have htlt : t < ops.size := (Array.getElem?_eq_some_iff.1 hot).1
    by_cases htn : t = n
    · subst htn
      have h1 := List.all_eq_true.1 hs i (List.mem_range.2 hi)
      obtain ⟨j, hj, hj2⟩ := List.any_eq_true.1 h1
      simp only [Bool.and_eq_true, decide_eq_true_eq] at hj2
      obtain ⟨oj, hoj, e, he, hb, hon⟩ := Region.waitsFor_spec hj2.2
      have hjle : j ≤ t := by have := List.mem_range.1 hj; omega
      by_cases hjt : j = t
      · subst hjt
        have : oj = ot := Option.some.inj (hoj.symm.trans hot)
        subst this
        have h2 := hall e he hb
        rw [hon, getD_both hun] at h2
        cases h2
      · cases hl : listed.getD j false with
        | true =>
          have h2 := inv.closed j oj hoj hl e he hb
          rw [hon, getD_both hun] at h2
          cases h2
        | false =>
          have hjs : j < listed.size := by rw [inv.size]; omega
          exact ih (t - j) (by omega) j rfl (by omega) (getD_in hjs hl) t (Nat.le_refl _) hr
    · have h1 := List.all_eq_true.1 hc t (List.mem_range.2 htlt)
      simp only [Bool.or_eq_true, decide_eq_true_eq] at h1
      rcases h1 with h1 | h1
      · omega
      · obtain ⟨s, hsr, hsw⟩ := List.any_eq_true.1 h1
        simp only [Bool.and_eq_true, decide_eq_true_eq] at hsw
        obtain ⟨o', ho', e, he, hb, hon⟩ := Region.waitsFor_spec hsw.2
        have : o' = ot := Option.some.inj (ho'.symm.trans hot)
        subst this
        have h2 := hall e he hb
        rw [hon, getD_both (inv.tail s hsw.1 (List.mem_range.1 hsr))] at h2
        cases h2
section
variable {P : Program} {ops : Array Oper} {md : Region.Mode} {fr fr' : List Dat} {hp : List HObj} {C : List HObj → Prop}
def sOpM (P : Program) (ops : Array Oper) (C : List HObj → Prop) (i : Nat) (K : List Dat → List HObj → Prop) (fr : List Dat) (hp : List HObj) : Prop :=
  ∃ o, ops[i]? = some o ∧ ((∃ d, (∀ hp', C hp' → SYG P ops hp' o fr d) ∧ K (setD fr o.dst d) hp) ∨
    ∃ (β : Type) (H : β → List HObj) (D : β → Dat), SW P ops hp H D o fr ∧ (∀ x, C (H x)) ∧ ∀ x, K (setD fr o.dst (D x)) (H x))
def wpAnyM (P : Program) (md : Region.Mode) (ops : Array Oper) (C : List HObj → Prop) (n : Nat) (L : Array Bool → List Dat → List HObj → Prop) : Nat → Array Bool → List Dat → List HObj → Prop
  | 0, listed, fr, hp => L listed fr hp
  | f + 1, listed, fr, hp =>
    Region.ready md ops listed ≠ [] ∧ ∀ i ∈ Region.ready md ops listed, i < n ∧ sOpM P ops C i (wpAnyM P md ops C n L f (listed.setIfInBounds i true)) fr hp
theorem wpAny_of_headM {n g : Nat} {L : Array Bool → List Dat → List HObj → Prop} {Q' : Exit → Act → World → Prop} {P0 : Nat → Prop} {B : Nat} {w0 : World} : ∀ (f : Nat) (listed : Array Bool) (fr : List Dat) (hp : List HObj) (a : Act) (w : World), C hp → Hp P0 B w0 hp w → Fr (Imm P0 B hp) w a fr →
    (∀ listed fr hp a w', Hp P0 B w0 hp w' → Fr (Imm P0 B hp) w' a fr → L listed fr hp → wpAny P md ops Q' g listed a w') → wpAnyM P md ops C n L f listed fr hp → wpAny P md ops Q' (f + g) listed a w
  | 0, listed, fr, hp, a, w, _, hh, hf, hL, h => by rw [Nat.zero_add]; exact hL _ _ _ _ _ hh hf h
  | f + 1, listed, fr, hp, a, w, hc, hh, hf, hL, h => by
    rw [show f + 1 + g = (f + g) + 1 by omega]
    refine ⟨fun h0 => absurd h0 h.1, fun i hi => ?_⟩
    obtain ⟨o, ho, h1⟩ := (h.2 i hi).2
    unfold wpOp
    simp only [ho]
    rcases h1 with ⟨d, hs, hk⟩ | ⟨β, H, D, hw, hC, hk⟩
    · have := (hs hp hc).step (Q := Q') hh hf (K := wpAny P md ops Q' (f + g) (listed.setIfInBounds i true)) fun a' w' e hf' => wpAny_of_headM f _ _ hp _ _ hc (hh.ext e) hf' hL hk
      split
      · rename_i hw; rw [if_pos hw] at this; exact .inl this
      · rename_i hw; rw [if_neg hw] at this; exact this
    · have hwant : Region.wanted o (yielded ops a.tmps) = true := by simp [Region.wanted, hw.guard]
      rw [if_pos hwant]
      exact .inl (hw.out hh (hf.on _) _ _ fun x v w' hh' hrd hd => wpAny_of_headM f _ _ (H x) _ _ (hC x) hh' (Fr.put (hf.mono fun d u hu => hrd d u hu) hd) hL (hk x))
theorem wpAnyM_first {n i : Nat} {oi : Oper} {di : Dat} {L : Array Bool → List Dat → List HObj → Prop} (hi : ops[i]? = some oi)
    (hs : Region.sinkB md ops n = true) (hc : chainB2 md ops n = true) (hn : n < ops.size) (hin : i < n)
    (hdone : ∀ listed a c, L listed a c → ∀ j ∈ Region.ready md ops listed, n ≤ j) :
    ∀ (f : Nat) (listed : Array Bool) (fr : List Dat) (hp : List HObj), HeadInv md ops n listed →
      (∀ j oj, ops[j]? = some oj → j ≠ i → listed.getD j true = false → (∀ e ∈ oj.after, Region.binds md e = true → e.on ≠ i) → oi.apart ops oj = true) →
      i ∈ Region.ready md ops listed → (∀ hp', C hp' → SYG P ops hp' oi fr di) →
      wpAnyM P md ops C n L f (listed.setIfInBounds i true) (setD fr oi.dst di) hp → wpAnyM P md ops C n L (f + 1) listed fr hp := by
  intro f
  induction f with
  | zero =>
    intro listed fr hp inv _ hr hy H
    have hun := (mem_ready.1 hr).1
    refine ⟨fun h => (by rw [h] at hr; cases hr), fun j hj => ?_⟩
    have hjn : j < n := by
      rcases Nat.lt_or_ge j n with h | h
      · exact h
      · exact absurd hj (tail_waits2 hs hc hn inv _ i rfl hin hun j h)
    refine ⟨hjn, ?_⟩
    by_cases hji : j = i
    · subst hji; exact ⟨oi, hi, .inl ⟨di, hy, H⟩⟩
    · have := hdone _ _ _ H j (ready_mono hj hji)
      omega
  | succ f ih =>
    intro listed fr hp inv hfree hr hy H
    have hun := (mem_ready.1 hr).1
    refine ⟨fun h => (by rw [h] at hr; cases hr), fun j hj => ?_⟩
    have hjn : j < n := by
      rcases Nat.lt_or_ge j n with h | h
      · exact h
      · exact absurd hj (tail_waits2 hs hc hn inv _ i rfl hin hun j h)
    refine ⟨hjn, ?_⟩
    by_cases hji : j = i
    · subst hji; exact ⟨oi, hi, .inl ⟨di, hy, H⟩⟩
    · obtain ⟨oj', hoj', h1⟩ := (H.2 j (ready_mono hj hji)).2
      obtain ⟨hjun, oj, hoj, hall⟩ := mem_ready.1 hj
      have hoo : oj = oj' := by rw [hoj] at hoj'; simpa using hoj'
      subst hoo
      have hnot : ∀ e ∈ oj.after, Region.binds md e = true → e.on ≠ i := fun e he hb heq => by
        have h1 := hall e he hb
        rw [heq, getD_both hun] at h1
        cases h1
      obtain ⟨a1, a2, a3⟩ := Oper.apart_spec (hfree j oj hoj hji hjun hnot)
      have hfree' : ∀ k ok, ops[k]? = some ok → k ≠ i → (listed.setIfInBounds j true).getD k true = false →
          (∀ e ∈ ok.after, Region.binds md e = true → e.on ≠ i) → oi.apart ops ok = true := fun k ok hk hki hun hno => by
        refine hfree k ok hk hki ?_ hno
        by_cases hjk : j = k
        · subst hjk; exact hjun
        · rw [getD_set_ne true hjk] at hun; exact hun
      have key : ∀ (d : Dat) (hp' : List HObj), wpAnyM P md ops C n L f ((listed.setIfInBounds i true).setIfInBounds j true) (setD (setD fr oi.dst di) oj.dst d) hp' →
          wpAnyM P md ops C n L (f + 1) (listed.setIfInBounds j true) (setD fr oj.dst d) hp' := fun d hp' hk => by
        refine ih (listed.setIfInBounds j true) (setD fr oj.dst d) hp' (inv.set hj hjn) hfree' (ready_mono hr (Ne.symm hji)) (fun c hc => (hy c hc).same (setD_length _ _ _) fun t ht => setD_other fun e => a3 t e ht) ?_
        rw [Array.setIfInBounds_comm _ _ hji, ← setD_comm fr di d a2]
        exact hk
      refine ⟨oj, hoj, ?_⟩
      rcases h1 with ⟨d, hs', hk⟩ | ⟨β, H', D, hw, hC, hk⟩
      · exact .inl ⟨d, fun c hc => (hs' c hc).same (setD_length _ _ _).symm fun t ht => (setD_other fun e => a1 t e ht).symm, key _ _ hk⟩
      · exact .inr ⟨β, H', D, hw.same (setD_length _ _ _).symm fun t ht => (setD_other fun e => a1 t e ht).symm, hC, fun x => key _ _ (hk x)⟩
def ordB (md : Region.Mode) (ops : Array Oper) (n : Nat) : List (Nat × Bool) → Array Bool → Bool
  | [], listed => (Region.ready md ops listed).all fun j => decide (n ≤ j)
  | (i, false) :: r, listed => decide (i < n) && (Region.ready md ops listed).contains i && Region.free md ops listed i && ordB md ops n r (listed.setIfInBounds i true)
  | (i, true) :: r, listed => decide (i < n) && decide (Region.ready md ops listed = [i]) && ordB md ops n r (listed.setIfInBounds i true)
inductive WM (P : Program) (ops : Array Oper) (C : List HObj → Prop) (Q : List Dat → List HObj → Prop) : List (Nat × Bool) → List Dat → List HObj → Prop
  | nil {fr : List Dat} {hp : List HObj} : Q fr hp → WM P ops C Q [] fr hp
  | read {i : Nat} {o : Oper} {r : List (Nat × Bool)} {fr : List Dat} {hp : List HObj} {d : Dat} : ops[i]? = some o → (∀ hp', C hp' → SYG P ops hp' o fr d) → WM P ops C Q r (setD fr o.dst d) hp → WM P ops C Q ((i, false) :: r) fr hp
  | write {i : Nat} {o : Oper} {r : List (Nat × Bool)} {fr : List Dat} {hp : List HObj} {β : Type} {H : β → List HObj} {D : β → Dat} : ops[i]? = some o → SW P ops hp H D o fr → (∀ x, C (H x)) → (∀ x, WM P ops C Q r (setD fr o.dst (D x)) (H x)) → WM P ops C Q ((i, true) :: r) fr hp
theorem wpAnyM_ord {n : Nat} {Q : List Dat → List HObj → Prop} (hs : Region.sinkB md ops n = true) (hc : chainB2 md ops n = true) (hn : n < ops.size) :
    ∀ (l : List (Nat × Bool)) (listed : Array Bool) (fr : List Dat) (hp : List HObj), HeadInv md ops n listed → ordB md ops n l listed = true → WM P ops C Q l fr hp →
    wpAnyM P md ops C n (fun listed' f p => (∀ j ∈ Region.ready md ops listed', n ≤ j) ∧ listed' = l.foldl (fun s p => s.setIfInBounds p.1 true) listed ∧ Q f p) l.length listed fr hp
  | [], listed, fr, hp, _, hB, h => by
    cases h
    rename_i h
    refine ⟨fun j hj => ?_, rfl, h⟩
    simp only [ordB, List.all_eq_true, decide_eq_true_eq] at hB
    exact hB j hj
  | (i, false) :: r, listed, fr, hp, inv, hB, h => by
    cases h
    rename_i o d ho hy hk
    simp only [ordB, Bool.and_eq_true, decide_eq_true_eq] at hB
    obtain ⟨⟨⟨hin, hr⟩, hf⟩, hB'⟩ := hB
    have hr' : i ∈ Region.ready md ops listed := by simpa using hr
    exact wpAnyM_first ho hs hc hn hin (fun _ _ _ hL => hL.1) r.length listed fr hp inv (Region.free_spec ho hf) hr' hy
      (wpAnyM_ord hs hc hn r _ _ _ (inv.set hr' hin) hB' hk)
  | (i, true) :: r, listed, fr, hp, inv, hB, h => by
    simp only [ordB, Bool.and_eq_true, decide_eq_true_eq] at hB
    obtain ⟨⟨hin, hr⟩, hB'⟩ := hB
    have hr' : i ∈ Region.ready md ops listed := by rw [hr]; simp
    cases h with
    | write ho hw hC hk =>
      refine ⟨fun h0 => (by rw [hr] at h0; cases h0), fun j hj => ?_⟩
      rw [hr] at hj
      cases List.mem_singleton.1 hj
      exact ⟨hin, _, ho, .inr ⟨_, _, _, hw, hC, fun x => wpAnyM_ord hs hc hn r _ _ _ (inv.set hr' hin) hB' (hk x)⟩⟩
theorem WC.drawM {id : Nat} {l : List Oper} {Q : Post} (C : List HObj → Prop) (n m : Nat) (ord : List (Nat × Bool)) (S : List Bool) (hm : P.follows .mixedOrders = true)
    (hB : (decide (n < l.toArray.size) && Region.sinkB .any l.toArray n && chainB2 .any l.toArray n && ordB .any l.toArray n ord (Array.replicate l.toArray.size false)) = true) (hS : ord.foldl (fun s p => s.setIfInBounds p.1 true) (Array.replicate l.toArray.size false) = S.toArray) (hlen : l.length = ord.length + m) (hC : C hp)
    (h : WM P l.toArray C (fun f p => WA P l.toArray Q m S f p) ord fr hp) : WC P Q (.region id l.toArray true) fr hp := by
  refine WC.of fun P0 B w0 w a hh hf => ?_
  simp only [Bool.and_eq_true, decide_eq_true_eq] at hB
  obtain ⟨⟨⟨hn, hs⟩, hc⟩, hord⟩ := hB
  have inv0 : HeadInv .any l.toArray n (Array.replicate l.toArray.size false) :=
    ⟨by simp, fun j oj _ hl => (by rw [getD_replicate_false] at hl; cases hl), fun t _ ht => getD_in (by simpa using ht) (getD_replicate_false _ _)⟩
  have HW := wpAnyM_ord hs hc hn ord _ fr hp inv0 hord h
  have hx : Ext w { w with drawn := w.drawn + 1 } := (Ext.refl w).drew
  refine wp_region_any hm ?_
  have := wpAny_of_headM (Q' := lift Q P0 B w0) (g := m) _ _ _ hp _ _ hC (hh.ext hx) (hf.ext hx) (fun listed' fr' hp' a' w' hh' hf' hL => by
    rw [hL.2.1, hS]
    exact hL.2.2.out _ _ _ _ _ hh' hf') HW
  rw [show l.toArray.size = ord.length + m by simpa using hlen]
  rw [show (l.toArray.size) = ord.length + m by simpa using hlen] at this
  exact this
theorem WM.readL {l : List Oper} {Q : List Dat → List HObj → Prop} {i : Nat} {o : Oper} {r : List (Nat × Bool)} {d : Dat} (ho : l[i]? = some o) (h : ∀ hp', C hp' → SYG P l.toArray hp' o fr d) (k : WM P l.toArray C Q r (setD fr o.dst d) hp) : WM P l.toArray C Q ((i, false) :: r) fr hp := WM.read (by simpa using ho) h k
theorem WM.writeL {l : List Oper} {Q : List Dat → List HObj → Prop} {i : Nat} {o : Oper} {r : List (Nat × Bool)} {β : Type} {H : β → List HObj} {D : β → Dat} (ho : l[i]? = some o) (h : SW P l.toArray hp H D o fr) (hC : ∀ x, C (H x)) (k : ∀ x, WM P l.toArray C Q r (setD fr o.dst (D x)) (H x)) : WM P l.toArray C Q ((i, true) :: r) fr hp := WM.write (by simpa using ho) h hC k
theorem WM.id {Q : List Dat → List HObj → Prop} {r : List (Nat × Bool)} (h : WM P ops C Q r fr hp) : WM P ops C Q r fr hp := h
end
end Go.Proofs.YtgppfikidagfpaaGreatDoor
