/-
  Part 28 of the texts that the claims of this seat lean on: walks of the program's functions by contracts over symbolic frames, and plain laws of what they compute. No condition.
-/
import Derived.Laws.CopyRow
import Derived.Test.YtgppfikidagfpaaGreatDoorVd6
import Derived.Test.YtgppfikidagfpaaGreatDoorVd7
import Derived.Test.YtgppfikidagfpaaGreatDoorVd10
import Derived.Test.YtgppfikidagfpaaGreatDoorVd11
import Derived.Test.YtgppfikidagfpaaGreatDoorVd12
import Derived.Test.YtgppfikidagfpaaGreatDoorVd13
import Derived.Test.YtgppfikidagfpaaGreatDoorVd18
import Derived.Test.YtgppfikidagfpaaGreatDoorVd22
import Derived.Test.YtgppfikidagfpaaGreatDoorVd24
import Derived.Test.YtgppfikidagfpaaGreatDoorVd25
import Derived.Test.YtgppfikidagfpaaGreatDoorVd27
set_option linter.unusedVariables false
set_option linter.unusedSimpArgs false
set_option linter.unusedSectionVars false
namespace Go.Proofs.YtgppfikidagfpaaGreatDoor
open Go.RowKit
set_option linter.unusedSimpArgs false

set_option maxHeartbeats 2000000
set_option maxRecDepth 100000
def plC (l : Cx) (s : List Vx) : Int := if chkC l ≠ 0 then chkC l else chkV s
theorem place27_p (l : Cx) (s : List Vx) : Fn Tryz.prog 76 [dS Cpx l, dS Verts s] (dI (plC l s)) := by
  (refine Fn.intro1 Tryz.func76 rfl rfl ?_; simp only [Tryz.ntmps76, List.length_cons, List.length_nil, Nat.reduceAdd, Nat.reduceSub, List.replicate_succ, List.replicate_zero, List.cons_append, List.nil_append])
  ((repeat' (first | (apply WL.opN; exact yF; dsimp only [setD, z0, z1]) | refine WL.nil ?_ | refine WC.seqK fun Kx hK => ?_ | (refine hK _ _ ?_; clear hK) | refine WC.region ?_ | (apply WL.opN; (focus ((first | (apply SY.call (check_p _) Tryz.call90; (exact aD)) | (apply SY.call (chk_p _) Tryz.call81; (exact aD)) | exact yNeq | exact yBox | fail); all_goals infer_instance)); dsimp only [setD, z0, z1]) | (apply WC.condN; (exact oD); all_goals (intro h; try exact xD)) | refine WC.skip ?_ | refine WC.ret ?_ | refine ThenD.r ?_)); all_goals (first | ((repeat clear hK); (repeat clear Kx))))
  all_goals ((refine ⟨trivial, _, rfl, ?_⟩; refine FinD.i ?_) <;> ((unfold plC; (repeat' split)) <;> (first | rfl | (exfalso; first | contradiction | omega) | (simp_all; done))))
theorem plC_good {l : Cx} {s : List Vx} (h : plC l s = 0) : GoodX l ∧ chkV s = 0 := by
  unfold plC at h
  by_cases h1 : chkC l ≠ 0
  · rw [if_pos h1] at h; exact absurd h h1
  · rw [if_neg h1] at h; exact ⟨goodX_iff.1 (by omega), h⟩
theorem GoodX.len {l : Cx} (h : GoodX l) : l.length ≤ 1000000 := Nat.le_trans h.1 (by decide)
theorem GoodX.short {l : Cx} (h : GoodX l) : ∀ s ∈ l, s.length ≤ 8 := fun s hs => len_chk (h.2.2.1 s hs)
theorem around_of {l : Cx} {s : List Vx} (h : plC l s = 0) : l.filter (faceG s) = aroundC l s := around_eq (plC_good h).1.asc (chkV_zero.1 (plC_good h).2).2.2.2
def contC (l : Cx) (s : List Vx) : Bool × Int := if plC l s ≠ 0 then (false, plC l s) else (hasC' l s, 0)
theorem contains27_p (l : Cx) (s : List Vx) : Fn Tryz.prog 27 [dS Cpx l, dS Verts s] (dT [dB (contC l s).1, dI (contC l s).2]) := by
  (refine Fn.intro2 Tryz.func27 rfl rfl ?_; simp only [Tryz.ntmps27, List.length_cons, List.length_nil, Nat.reduceAdd, Nat.reduceSub, List.replicate_succ, List.replicate_zero, List.cons_append, List.nil_append])
  by_cases h0 : plC l s = 0
  · have e : contC l s = (hasC' l s, 0) := by unfold contC; rw [if_neg (by omega)]
    ((repeat' (first | (apply WL.opN; exact yF; dsimp only [setD, z0, z1]) | refine WL.nil ?_ | refine WC.seqK fun Kx hK => ?_ | (refine hK _ _ ?_; clear hK) | refine WC.region ?_ | (apply WL.opN; (focus ((first | (apply SY.call (place27_p _ _) Tryz.call76; (exact aD)) | (apply SY.call (around_p _ _ (plC_good h0).1.len) Tryz.call77; (exact aD)) | exact yGtr | exact yNeq | exact yLen | exact yBox | fail); all_goals infer_instance)); dsimp only [setD, z0, z1]) | (apply WC.condN; (exact oD); all_goals (intro h; try exact xD)) | refine WC.skip ?_ | refine WC.ret ?_)); all_goals (first | ((repeat clear hK); (repeat clear Kx))))
    rw [e, has_around, ← around_of h0]; (refine ⟨trivial, ⟨_, rfl, ?_⟩, _, rfl, ?_⟩ <;> (first | exact fD | refine FinD.b ?_))
    simp
  · have e : contC l s = (false, plC l s) := by unfold contC; rw [if_pos h0]
    ((repeat' (first | (apply WL.opN; exact yF; dsimp only [setD, z0, z1]) | refine WL.nil ?_ | refine WC.seqK fun Kx hK => ?_ | (refine hK _ _ ?_; clear hK) | refine WC.region ?_ | (apply WL.opN; (focus ((first | (apply SY.call (place27_p _ _) Tryz.call76; (exact aD)) | exact yNeq | exact yBox | fail); all_goals infer_instance)); dsimp only [setD, z0, z1]) | (apply WC.condN; (exact oD); all_goals (intro h; try exact xD)) | refine WC.ret ?_ | refine ThenD.r ?_)); all_goals (first | ((repeat clear hK); (repeat clear Kx))))
    rw [e]; (refine ⟨trivial, ⟨_, rfl, ?_⟩, _, rfl, ?_⟩ <;> exact fD)
def errC : Cx → Int
  | [] => 0
  | s :: l => if chkV s ≠ 0 then chkV s else errC l
theorem errC_drop {l : Cx} {k : Nat} (h : k < l.length) : errC (l.drop k) = if chkV l[k] ≠ 0 then chkV l[k] else errC (l.drop (k + 1)) := by rw [drop_cons' h]; rfl
theorem errC_zero : ∀ {l : Cx}, errC l = 0 → ∀ s ∈ l, chkV s = 0
  | [], _, s, hs => by cases hs
  | x :: l, h, s, hs => by
    unfold errC at h
    by_cases h1 : chkV x ≠ 0
    · rw [if_pos h1] at h; exact absurd h h1
    · rw [if_neg h1] at h
      rcases List.mem_cons.1 hs with rfl | hs
      · omega
      · exact errC_zero h s hs
def ofP (l : Cx) : Cx × Int := if 4096 < l.length then ([], 5) else if errC l ≠ 0 then ([], errC l) else (maxC l, 0)
theorem of27_p (l : Cx) : Fn Tryz.prog 31 [dS Simps l] (dT [dS Cpx (ofP l).1, dI (ofP l).2]) := by
  (refine Fn.introC2 tyC Tryz.func31 rfl rfl ?_; simp only [Tryz.ntmps31, List.length_cons, List.length_nil, Nat.reduceAdd, Nat.reduceSub, List.replicate_succ, List.replicate_zero, List.cons_append, List.nil_append])
  ((repeat' (first | (apply WL.opN; exact yF; dsimp only [setD, z0, z1]) | refine WL.nil ?_ | refine WC.seqK fun Kx hK => ?_ | (refine hK _ _ ?_; clear hK) | refine WC.region ?_ | (apply WL.alloc; (first | exact tzV | exact tzC); (first | exact shape_X rfl | exact shape_XV | exact shape_C0 rfl); (intro _; dsimp only [setD, z0, z1])) | (apply WL.storeF; (exact tD); rfl; (exact oD); (exact hD); dsimp only [setD, z0, z1]) | (apply WL.opN; (focus ((first | exact yGtr | exact yLen | exact yBuild | fail); all_goals infer_instance)); dsimp only [setD, z0, z1]) | (apply WC.condD; (exact oD); all_goals (intro h; try exact xD)) | refine WC.skip ?_ | refine WC.ret ?_ | refine WC.block ?_ | refine ThenD.r ?_)); all_goals (first | refine WC.id ?_ | ((repeat clear hK); (repeat clear Kx))))
  · have e : ofP l = ([], 5) := by unfold ofP; rw [if_pos (by omega)]
    rw [e]; (refine ⟨trivial, ⟨_, rfl, ?_⟩, _, rfl, ?_⟩ <;> exact fD)
  · rename Nat => b0
    (refine WC.loopU (X := Nat) (fun k => [(13, dI (k : Int)), (3, dA), (5, dA), (6, dA), (14, dA), (15, dA), (16, dA), (17, dA), (18, dA), (19, dA), (20, dA), (21, dA), (22, dA), (23, dA)]) (fun k => [hCell b0 39 1 true (dX (.agg #[.slice none 0 0]))]) (fun k => l.length - k) (fun k => k ≤ l.length ∧ errC l = errC (l.drop k)) 0 ?start ?frame0 ?objs0 ?round)
    case start => exact ⟨Nat.zero_le _, rfl⟩
    case frame0 => ((try dsimp only [upds, z0, z1]); repeat (first | exact LeF.nil | refine LeF.co (k := ?_)))
    case objs0 => rfl
    case round =>
      rintro k ⟨h1, h2⟩
      dsimp only [upds, z0, z1]
      by_cases hz : errC l = 0
      · have hg := errC_zero hz
        have hl : l.length ≤ 1000000 := by omega
        ((repeat' (first | (apply WL.opN; exact yF; dsimp only [setD, z0, z1]) | refine WL.nil ?_ | refine WC.seqK fun Kx hK => ?_ | (refine hK _ _ ?_; clear hK) | (refine Kont.skip ?_; clear hK) | refine WC.region ?_ | (apply WL.storeF; (exact tD); rfl; (exact oD); (exact hD); dsimp only [setD, z0, z1]) | (apply WL.opN; (focus ((first | (apply SY.call (chk_p _) Tryz.call81; (exact aD)) | (apply SY.call (complexOf_p l hg hl) Tryz.call82; (exact aD)) | exact yLss | exact yNeq | exact yAdd | exact yIndexaddr | exact yBuild | fail); all_goals infer_instance)); dsimp only [setD, z0, z1]) | (apply WC.condD; (exact oD); all_goals (intro h; try exact xD)) | (apply WC.condN; (exact oD); all_goals (intro h; try exact xD)) | refine WC.skip ?_ | refine WC.ret ?_ | refine WC.exit ?_ | refine WC.block ?_ | refine ThenD.n ?_ | refine ThenD.r ?_ | refine InBlockD.r ?_)); all_goals (first | ((repeat clear hK); (repeat clear Kx))))
        · exfalso
          have := hg _ (List.getElem_mem (show k < l.length by omega))
          omega
        · (refine ⟨k + 1, ?_, by first | omega | (simp only; omega), rfl, ?_⟩; rotate_left; ((try dsimp only [upds, z0, z1]); repeat (first | exact LeF.nil | refine LeF.co (k := ?_))); (try dsimp only))
          refine ⟨by omega, ?_⟩
          rw [h2, errC_drop (by omega), if_neg (by omega)]
        · have e : ofP l = (maxC l, 0) := by unfold ofP; rw [if_neg (by omega), if_neg (by omega)]
          rw [e]; (refine ⟨trivial, ⟨_, rfl, ?_⟩, _, rfl, ?_⟩ <;> exact fD)
      · have hk : k < l.length := by
          rcases Nat.lt_or_ge k l.length with h | h
          · exact h
          · rw [List.drop_of_length_le h] at h2; exact absurd h2 hz
        ((repeat' (first | (apply WL.opN; exact yF; dsimp only [setD, z0, z1]) | refine WL.nil ?_ | refine WC.seqK fun Kx hK => ?_ | (refine hK _ _ ?_; clear hK) | refine WC.region ?_ | (apply WL.storeF; (exact tD); rfl; (exact oD); (exact hD); dsimp only [setD, z0, z1]) | (apply WL.opN; (focus ((first | (apply SY.call (chk_p _) Tryz.call81; (exact aD)) | exact yLss | exact yNeq | exact yAdd | exact yIndexaddr | exact yBuild | fail); all_goals infer_instance)); dsimp only [setD, z0, z1]) | (apply WC.condD; (exact oD); all_goals (intro h; try exact xD)) | (apply WC.condN; (exact oD); all_goals (intro h; try exact xD)) | refine WC.skip ?_ | refine WC.ret ?_ | refine WC.block ?_ | refine ThenD.n ?_ | refine ThenD.r ?_ | refine InBlockD.r ?_)); all_goals (first | ((repeat clear hK); (repeat clear Kx))))
        · have e : ofP l = ([], errC l) := by unfold ofP; rw [if_neg (by omega), if_pos hz]
          rw [e, h2, errC_drop (by omega), if_pos h]; (refine ⟨trivial, ⟨_, rfl, ?_⟩, _, rfl, ?_⟩ <;> exact fD)
        · (refine ⟨k + 1, ?_, by first | omega | (simp only; omega), rfl, ?_⟩; rotate_left; ((try dsimp only [upds, z0, z1]); repeat (first | exact LeF.nil | refine LeF.co (k := ?_))); (try dsimp only))
          refine ⟨by omega, ?_⟩
          rw [h2, errC_drop (by omega), if_neg (by omega)]
end Go.Proofs.YtgppfikidagfpaaGreatDoor
namespace Go.Proofs.YtgppfikidagfpaaGreatDoor
theorem snap_small : ∀ n, n ≤ 5 → ((ordP (2 ^ n - 1)).all fun bl => (List.range n).all fun i => decide (snapB bl i 0 ≤ 31)) = true := by
  intro n h5
  have : n = 0 ∨ n = 1 ∨ n = 2 ∨ n = 3 ∨ n = 4 ∨ n = 5 := by omega
  rcases this with rfl | rfl | rfl | rfl | rfl | rfl <;> decide +kernel
theorem ord_len : ∀ n, n ≤ 5 → (ordP (2 ^ n - 1)).length ≤ 541 := by
  intro n h5
  have : n = 0 ∨ n = 1 ∨ n = 2 ∨ n = 3 ∨ n = 4 ∨ n = 5 := by omega
  rcases this with rfl | rfl | rfl | rfl | rfl | rfl <;> decide +kernel
theorem fac_chk {s : List Vx} (hs : chkV s = 0) (hd : diffV s = true) (h5 : s.length ≤ 5) : ∀ t ∈ facB s, chkV t = 0 := fun t ht => by
  unfold facB at ht
  obtain ⟨bl, hbl, rfl⟩ := List.mem_map.1 ht
  refine place_chk hs hd fun i hi => ?_
  have h1 := List.all_eq_true.1 (snap_small s.length h5) bl hbl
  have h2 := of_decide_eq_true (List.all_eq_true.1 h1 i (List.mem_range.2 hi))
  omega
theorem errC_ok : ∀ {l : Cx}, (∀ s ∈ l, chkV s = 0) → errC l = 0
  | [], _ => rfl
  | s :: l, h => by
    unfold errC
    rw [if_neg (fun q => q (h s (List.mem_cons_self ..)))]
    exact errC_ok fun t ht => h t (List.mem_cons_of_mem _ ht)
theorem fac_of {s : List Vx} (hs : chkV s = 0) (hd : diffV s = true) (h5 : s.length ≤ 5) : ofP (facB s) = (maxC (facB s), 0) ∧ GoodX (maxC (facB s)) ∧ (maxC (facB s)).length ≤ 541 := by
  have hc := fac_chk hs hd h5
  have hl : (facB s).length ≤ 541 := by
    unfold facB
    rw [List.length_map]
    exact ord_len s.length h5
  have hm : (maxC (facB s)).length ≤ 541 := by
    have := List.Nodup.length_le_of_subset (maxC_asc (facB s)).nodup fun x hx => (maxC_mem.1 hx).1
    omega
  refine ⟨?_, good_max (fun t ht _ => hc t ht) (by omega), hm⟩
  unfold ofP
  rw [if_neg (by omega), if_neg (fun q => q (errC_ok hc))]
end Go.Proofs.YtgppfikidagfpaaGreatDoor
namespace Go.Proofs.YtgppfikidagfpaaGreatDoor
open Go.RowKit
set_option maxRecDepth 100000
abbrev hA (b : Nat) (T : TypeId) (cs : List Value) : HObj := hObj b (.cells cs.toArray T)
end Go.Proofs.YtgppfikidagfpaaGreatDoor
namespace Go.Proofs.YtgppfikidagfpaaGreatDoor
open Go.RowKit
set_option linter.unusedSimpArgs false

set_option maxHeartbeats 2000000
set_option maxRecDepth 100000
section
variable {P : Program} {f : FuncId} {fn : Func} {c : Code} {t u : Tmp} {ds : List Dat} {hp1 : List HObj} {K : Dat → List HObj → Prop}
def finC22 (t u : Nat) (K : Dat → List HObj → Prop) (hp : List HObj) : Post := fun e f q => (match e with | .normal | .ret => True | _ => False) ∧ ∃ d d' hp2, f[t]? = some d ∧ f[u]? = some d' ∧ q = hp2 ++ hp ∧ K (dT [d, d']) hp2
theorem CallC.intro2 (hf : P.funcs[f]? = some fn) (hb : fn.body = some c) (hr : fn.results = #[.tmp t, .tmp u])
    (h : ∀ hp, WC P (finC22 t u K hp) c (ds ++ List.replicate (fn.ntmps - ds.length) (dX undef)) (hp1 ++ hp)) : CallC P f ds hp1 K := ⟨fun P0 B w0 hp vs W hh hl hv => by
  refine calls_of_wp hf hb ?_
  have hf0 := fr_enter (m := fn.ntmps - ds.length) hl hv
  have hsz : vs.toArray.size = ds.length := by simp [hl]
  rw [hsz]
  refine Code.wp_mono (fun e a' w' ⟨f', p', q, hh', hf'⟩ => ?_) ((h hp).on hh hf0)
  obtain ⟨hx, d, d', hp2, hd, hd', rfl, hk'⟩ := q
  have hv := hf'.rd t d hd
  have hv' := hf'.rd u d' hd'
  have hT : (dT [d, d']).rd (Imm P0 B (hp2 ++ hp)) w' (.tuple #[a'.tmps.getD t undef, a'.tmps.getD u undef]) := ⟨[a'.tmps.getD t undef, a'.tmps.getD u undef], rfl, rfl, fun i e x he hx => by
    match i, he, hx with
    | 0, he, hx => cases he; cases hx; exact hv
    | 1, he, hx => cases he; cases hx; exact hv'⟩
  cases e with
  | normal => exact ⟨hf'.defers, _, results_tmp2 hr _ _ _, _, _, hp2, rfl, hk', hh', hT⟩
  | ret => exact ⟨hf'.defers, _, results_tmp2 hr _ _ _, _, _, hp2, rfl, hk', hh', hT⟩
  | _ => exact hx.elim⟩
end
def tooMany (l : Cx) (k : Nat) : Prop := 4096 < (allC l k).length
end Go.Proofs.YtgppfikidagfpaaGreatDoor
namespace Go.Proofs.YtgppfikidagfpaaGreatDoor
open Go.RowKit
set_option linter.unusedSimpArgs false

set_option maxHeartbeats 2000000
set_option maxRecDepth 100000
theorem FinD.t2 {hp : List HObj} {a b a' b' : Dat} (h : FinD hp a a') (k : FinD hp b b') : FinD hp (dT [a, b]) (dT [a', b']) := FinD.mk fun {P0 B w0 w v} hh hd => by
  obtain ⟨vs, rfl, hl, hv⟩ := hd
  match vs, hl with
  | [x, y], _ =>
    refine ⟨[x, y], rfl, rfl, fun i d u hd hu => ?_⟩
    match i, hd, hu with
    | 0, hd, hu => cases hd; cases hu; exact h.out hh (hv 0 _ _ rfl rfl)
    | 1, hd, hu => cases hd; cases hu; exact k.out hh (hv 1 _ _ rfl rfl)
instance (l : Cx) (k : Nat) : Decidable (tooMany l k) := inferInstanceAs (Decidable (4096 < (allC l k).length))
end Go.Proofs.YtgppfikidagfpaaGreatDoor
namespace Go.Proofs.YtgppfikidagfpaaGreatDoor
open Go.RowKit
theorem wp_mono2 {P : Program} {o : Oper} {a : Act} {w : World} {K K' : Act → World → Prop} {Q Q' : Exit → Act → World → Prop} (h : ∀ a w, K a w → K' a w) (hq : ∀ e a w, e ≠ .normal → Q e a w → Q' e a w)
    (hh : o.wp P a w K Q) : o.wp P a w K' Q' := by
  have hl : LetsOut Q → LetsOut Q' := fun ⟨a, w, x⟩ => ⟨a, w, hq _ _ _ (by simp) x⟩
  unfold Oper.wp at *
  generalize (execOp a.eval o).run P w = r at *
  cases r with
  | ok n w' =>
    cases n <;> simp only [Oper.upon] at hh ⊢ <;>
      first
        | exact h _ _ hh
        | exact Calls.mono hh (fun e w'' he => by cases e <;> first | exact h _ _ he | exact hq _ _ _ (by simp) he | exact hl he)
        | exact Rows.mono hh (fun _ _ he => h _ _ he)
  | halt x w' => cases x <;> simp only [Oper.upon] at hh ⊢ <;> first | exact hh | exact hq _ _ _ (by simp) hh
structure WA (P : Program) (ops : Array Oper) (Q : Post) (g : Nat) (S : List Bool) (fr : List Dat) (hp : List HObj) : Prop where
  of ::
  out : ∀ (P0 : Nat → Prop) (B : Nat) (w0 w : World) (a : Act), Hp P0 B w0 hp w → Fr (Imm P0 B hp) w a fr → wpAny P .any ops (lift Q P0 B w0) g S.toArray a w
def ThenA (P : Program) (ops : Array Oper) (Q : Post) (g : Nat) (S : List Bool) : Post := fun e f p => match e with | .normal => WA P ops Q g S f p | e => Q e f p
section
variable {P : Program} {ops : Array Oper} {hp : List HObj} {fr : List Dat} {Q : Post} {g : Nat} {S : List Bool}
theorem WA.id (h : WA P ops Q g S fr hp) : WA P ops Q g S fr hp := h
theorem WA.nil (hr : Region.ready .any ops S.toArray = []) (h : Q .normal fr hp) : WA P ops Q 0 S fr hp := WA.of fun _ _ _ _ _ hh hf => ⟨hr, fr, hp, h, hh, hf⟩
theorem WA.step {i : Nat} {o : Oper} (ho : ops[i]? = some o) (h : WL P ops (ThenA P ops Q g (S.set i true)) [o] fr hp) {P0 : Nat → Prop} {B : Nat} {w0 w : World} {a : Act} (hh : Hp P0 B w0 hp w) (hf : Fr (Imm P0 B hp) w a fr) :
    wpOp P ops (lift Q P0 B w0) i (wpAny P .any ops (lift Q P0 B w0) g (S.toArray.setIfInBounds i true)) a w := by
  have h1 := h.on hh hf
  unfold wpList at h1
  unfold wpOp
  simp only [ho]
  have he : S.toArray.setIfInBounds i true = (S.set i true).toArray := by simp
  rw [he]
  have hK : ∀ a' w', wpList P ops (lift (ThenA P ops Q g (S.set i true)) P0 B w0) [] a' w' → wpAny P .any ops (lift Q P0 B w0) g (S.set i true).toArray a' w' := fun a' w' hn => by
    obtain ⟨f, p, q, r, s⟩ := (hn : lift (ThenA P ops Q g (S.set i true)) P0 B w0 .normal a' w')
    exact (q : WA P ops Q g (S.set i true) f p).out _ _ _ _ _ r s
  have hQ : ∀ e a' w', e ≠ .normal → lift (ThenA P ops Q g (S.set i true)) P0 B w0 e a' w' → lift Q P0 B w0 e a' w' := fun e a' w' hne ⟨f, p, q, r, s⟩ => by
    cases e with
    | normal => exact absurd rfl hne
    | _ => exact ⟨f, p, q, r, s⟩
  split
  · rename_i hw
    rw [if_pos hw] at h1
    rcases h1 with h1 | ⟨h1, a2, w2, h2⟩
    · exact .inl (wp_mono2 hK hQ h1)
    · exact .inr ⟨h1, a2, w2, hQ _ _ _ (by simp) h2⟩
  · rename_i hw
    rw [if_neg hw] at h1
    exact hK _ _ h1
theorem WA.one {l : List Oper} {i : Nat} {o : Oper} (hr : Region.ready .any l.toArray S.toArray = [i]) (ho : l[i]? = some o) (h : WL P l.toArray (ThenA P l.toArray Q g (S.set i true)) [o] fr hp) : WA P l.toArray Q (g + 1) S fr hp := WA.of fun P0 B w0 w a hh hf => by
  refine ⟨fun h0 => (by rw [hr] at h0; cases h0), fun j hj => ?_⟩
  rw [hr] at hj
  cases List.mem_singleton.1 hj
  exact WA.step (by simpa using ho) h hh hf
theorem ThenA.n (h : WA P ops Q g S fr hp) : ThenA P ops Q g S .normal fr hp := h
end
end Go.Proofs.YtgppfikidagfpaaGreatDoor
namespace Go.Proofs.YtgppfikidagfpaaGreatDoor
open Go.RowKit
section
variable {P : Program} {ops : Array Oper} {md : Region.Mode} {fr fr' : List Dat} {hp : List HObj} {C : List HObj → Prop}
inductive WM (P : Program) (ops : Array Oper) (C : List HObj → Prop) (Q : List Dat → List HObj → Prop) : List (Nat × Bool) → List Dat → List HObj → Prop
  | nil {fr : List Dat} {hp : List HObj} : Q fr hp → WM P ops C Q [] fr hp
  | read {i : Nat} {o : Oper} {r : List (Nat × Bool)} {fr : List Dat} {hp : List HObj} {d : Dat} : ops[i]? = some o → (∀ hp', C hp' → SYG P ops hp' o fr d) → WM P ops C Q r (setD fr o.dst d) hp → WM P ops C Q ((i, false) :: r) fr hp
  | write {i : Nat} {o : Oper} {r : List (Nat × Bool)} {fr : List Dat} {hp : List HObj} {β : Type} {H : β → List HObj} {D : β → Dat} : ops[i]? = some o → SW P ops hp H D o fr → (∀ x, C (H x)) → (∀ x, WM P ops C Q r (setD fr o.dst (D x)) (H x)) → WM P ops C Q ((i, true) :: r) fr hp
theorem WM.id {Q : List Dat → List HObj → Prop} {r : List (Nat × Bool)} (h : WM P ops C Q r fr hp) : WM P ops C Q r fr hp := h
end
end Go.Proofs.YtgppfikidagfpaaGreatDoor
namespace Go.Proofs.YtgppfikidagfpaaGreatDoor
open Go.RowKit
set_option linter.unusedSimpArgs false

set_option maxHeartbeats 2000000
set_option maxRecDepth 100000
abbrev vvI (n : Int) : Value := .int .i64 n
end Go.Proofs.YtgppfikidagfpaaGreatDoor
namespace Go.Proofs.YtgppfikidagfpaaGreatDoor
open Go.RowKit
set_option linter.unusedSimpArgs false

set_option maxHeartbeats 2000000
set_option maxRecDepth 100000
abbrev vc : Vx := (2, 0)
abbrev vd : Vx := (3, 0)
end Go.Proofs.YtgppfikidagfpaaGreatDoor
namespace Go.Proofs.YtgppfikidagfpaaGreatDoor
open Go.RowKit
set_option linter.unusedSimpArgs false

set_option maxHeartbeats 2000000
set_option maxRecDepth 100000
def chooseN : Nat → Nat → Nat
  | _, 0 => 1
  | 0, _ + 1 => 0
  | n + 1, k + 1 => chooseN n k + chooseN n (k + 1)
theorem subs_choose : ∀ (s : List Vx) (k : Nat), (subsV k s).length = chooseN s.length k
  | s, 0 => by rw [subsV_zero]; cases s <;> rfl
  | [], k + 1 => by rw [subsV_short _ _ (by simp)]; rfl
  | v :: s, k + 1 => by rw [subsV_next, subs_choose s k, subs_choose s (k + 1)]; rfl
end Go.Proofs.YtgppfikidagfpaaGreatDoor
namespace Go.Proofs.YtgppfikidagfpaaGreatDoor
theorem all_few {l : Cx} {k B : Nat} (h : ∀ s ∈ l, (subsV k s).length ≤ B) : (allC l k).length ≤ B * l.length := by
  have h1 : (allC l k).length ≤ (fcsC l k).length := List.Nodup.length_le_of_subset (allC_asc l _).nodup fun x hx => fcsC_mem.2 hx
  have h2 : ∀ l : Cx, (∀ s ∈ l, (subsV k s).length ≤ B) → (fcsC l k).length ≤ B * l.length := by
    intro l
    induction l with
    | nil => intro _; simp [fcsC]
    | cons s l ih =>
      intro h
      have h3 := ih fun x hx => h x (List.mem_cons_of_mem _ hx)
      have h4 := h s (by simp)
      have h5 : (fcsC (s :: l) k).length = (subsV k s).length + (fcsC l k).length := by unfold fcsC; simp
      rw [h5, List.length_cons, Nat.mul_add, Nat.mul_one]
      omega
  exact Nat.le_trans h1 (h2 l h)
theorem choose_5 : ∀ n ≤ 5, ∀ k ≤ 5, chooseN n k ≤ 10 := by decide
structure Gd (l : Cx) : Prop where
  good : GoodX l
  few : l.length ≤ 30
  five : ∀ s ∈ l, s.length ≤ 5
theorem Gd.all {l : Cx} (h : Gd l) (k : Nat) : (allC l k).length ≤ 300 := by
  have := all_few (l := l) (k := k) (B := 10) fun s hs => by
    have h5 := h.five s hs
    by_cases hk : k ≤ 5
    · rw [subs_choose]; exact choose_5 _ h5 _ hk
    · rw [subsV_short k s (by omega)]; simp
  have := h.few
  omega
theorem Gd.zero {l : Cx} (h : Gd l) : chkC l = 0 := goodX_iff.2 h.good
theorem Gd.none {l : Cx} (h : Gd l) {k : Nat} (hk : 5 < k) : allC l k = [] := by
  apply List.eq_nil_iff_forall_not_mem.2
  intro x hx
  obtain ⟨f, hf, hx⟩ := allC_mem.1 hx
  rw [subsV_short k f (by have := h.five f hf; omega)] at hx
  simp at hx
end Go.Proofs.YtgppfikidagfpaaGreatDoor
