/- Part 34: walks by contracts, and plain laws. -/
import Derived.Test.YtmcllakdbgnfiaaGreatDoorVg33
set_option linter.unusedVariables false
set_option linter.unusedSimpArgs false
set_option linter.unusedSectionVars false
set_option maxRecDepth 100000
set_option maxHeartbeats 4000000
namespace Go.Proofs.YtmcllakdbgnfiaaGreatDoor
section
open Go.RowKit

def multB (m : Int) : Bool := decide (iand m (m - 1) ≠ 0)
theorem mult_p (m : Int) (h : 0 <= m /\ m <= 1048576) : Fn Tryz.prog 93 [dI m] (dB (multB m)) := by
 (refine ZE Tryz.func93 rfl rfl ?_; simp only [Tryz.ntmps93, List.length_cons, List.length_nil, Nat.reduceAdd, Nat.reduceSub, List.replicate_succ, List.replicate_zero, List.cons_append, List.nil_append])
 ((repeat' (first | (apply WL.opN; exact yF; dsimp only [ZB, z0, z1]) | refine WL.nil ?_ | refine ZA fun Kx hK => ?_ | (refine hK _ _ ?_; clear hK) | refine WC.region ?_ | (apply WL.opN; (focus ((first | ((first | apply SY.move | apply SY.assign | apply SY.neq | apply SY.and) <;> (exact oD)) | ((first | apply SY.sub) <;> first | exact oD | omega) | fail); all_goals infer_instance)); dsimp only [ZB, z0, z1]) | refine WC.ret ?_)); all_goals (first | ((repeat clear hK); (repeat clear Kx))))
 (refine ⟨trivial, _, rfl, ?_⟩; refine FinD.b ?_)
 unfold multB
 simp
def ordS (r : Nat) : List (List Nat) := (ZBw r).filter fun bl => !((ZAA bl).any multB)
theorem orders_k (r : Nat) : CallC Tryz.prog 44 ([dI (r : Int)] ++ ([] : List Value).map dX) [] (fun d hp2 => ∃ vr, d = dX (.func (.func 91) #[] [vr].toArray) /\ hp2 = [Zu vr (dP 1 false (dI (r : Int)))]) := by
 (refine Zw Tryz.func44 rfl rfl (fun hp => ?_); simp only [Tryz.ntmps44, List.length_cons, List.length_nil, List.length_append, List.length_map, Nat.reduceAdd, Nat.reduceSub, List.replicate_succ, List.replicate_zero, List.cons_append, List.nil_append, List.map_cons, List.map_nil, List.append_assoc])
 ((repeat' (first |  (refine WC.pin (d := dP 1 false (dI (r : Int))) 1 rfl fun vr => ?_; dsimp only [z0, z1]) | (apply WL.opN; exact yF; dsimp only [ZB, z0, z1]) | refine WL.nil ?_ | refine ZA fun Kx hK => ?_ | (refine hK _ _ ?_; clear hK) | refine WC.region ?_ | (apply WL.opN; (focus ((first | (apply SY.makeX; repeat (first | exact ArgsX.nil | (apply ArgsX.cons; exact OpD.t rfl))) | (apply SY.box; (exact oD); (exact hD)) | fail); all_goals infer_instance)); dsimp only [ZB, z0, z1]) | refine WC.ret ?_)); all_goals (first | ((repeat clear hK); (repeat clear Kx))))
 exact ⟨trivial, _, [_], rfl, rfl, vr, rfl, rfl⟩
theorem yStepE {P : Program} {l : Nat} {α : Type} {D : α -> Dat} {J : List α -> List HObj -> Prop} {N : Nat} (hY : YStep P l D J N) : YStepE P l D J (fun _ _ => False) N :=
 ⟨fun P0 B w0 hp pre js x u W hn hj hh hu => yieldAt_mono (hY.out P0 B w0 hp pre js x u W hn hj hh hu) fun _ _ ⟨he, js', hj', hh'⟩ => ⟨true, he, js', hj', hh'⟩⟩
theorem I.WL.yieldT {P : Program} {ops : Array Oper} {hp : List HObj} {fr : List Dat} {Q : Z1} {rest : List Oper} {dst : Option Tmp} {ty : TypeId} {ps : String} {af : Array Edge} {l : Nat} {α : Type} {D : α -> Dat} {J : List α -> List HObj -> Prop} {t gi s : Nat} {pol : Bool} {x : Operand} {ats : Array TypeId} {pre : List α} {js : List HObj} {y : α} {N : Nat} (hs : (ops[gi]?).bind (·.dst) = some s) (hb : fr[s]? = some (dB pol)) (hy : YStep P l D J N) (hn : pre.length < N) (hj : J pre js) (ht : OpD fr (.tmp t) (dX (.func (.yield l) #[] #[]))) (hx : OpD fr x (D y))
  (h : ∀ js', J (pre ++ [y]) js' -> I.WL P ops Q rest (ZB fr dst (dB true)) (js' ++ hp)) :
  I.WL P ops Q ({ dst := dst, op := .call { callee := .value (.tmp t), args := #[x], argTypes := ats }, type := ty, pos := ps, after := af, guard := some (gi, pol) } :: rest) fr (js ++ hp) :=
 I.WL.yieldG hs hb (yStepE hy) hn hj ht hx fun b js' hj' => by
  cases b with
  | true => exact h js' (by simpa using hj')
  | false => simp at hj'
def sinH (l : Nat) (v2 : Value) (J : List (List Nat) -> List HObj -> Prop) (pre : List (List Nat)) (hs : List HObj) : Prop :=
 ∃ js, J (pre.filter fun bl => !((ZAA bl).any multB)) js /\ hs = js ++ [Zu v2 (dP 1 false (dX (.func (.yield l) #[] #[])))]
theorem ord_small (r : Nat) (hr : r < 32) : ∀ bl ∈ ZBw r, ∀ b ∈ bl, b < 32 := by
 have go : ∀ (k r : Nat), ∀ bl ∈ ordN k r, ∀ b ∈ bl, b <= r := fun k => by
  induction k with
  | zero => intro r bl hbl b hb; simp [ordN] at hbl; subst hbl; cases hb
  | succ k ih =>
   intro r bl hbl b hb
   by_cases h0 : r = 0
   ·subst h0
    rw [ordN_zero] at hbl
    simp at hbl
    subst hbl
    cases hb
   ·rw [ordN_succ h0] at hbl
    obtain ⟨c, hc, hbl⟩ := List.mem_flatMap.1 hbl
    obtain ⟨x, hx, rfl⟩ := List.mem_map.1 hbl
    have hc2 := (sub_mem.1 hc).2.1
    rcases List.mem_cons.1 hb with rfl | hb
    ·exact hc2
    ·have := ih _ x hx b hb; omega
 intro bl hbl b hb
 have := go 6 r bl hbl b hb
 omega
theorem ord_lenB (r : Nat) : ∀ bl ∈ ZBw r, bl.length <= 6 := by
 have go : ∀ (k r : Nat), ∀ bl ∈ ordN k r, bl.length <= k := fun k => by
  induction k with
  | zero => intro r bl hbl; simp [ordN] at hbl; subst hbl; simp
  | succ k ih =>
   intro r bl hbl
   by_cases h0 : r = 0
   ·subst h0
    rw [ordN_zero] at hbl
    simp at hbl
    subst hbl
    simp
   ·rw [ordN_succ h0] at hbl
    obtain ⟨c, hc, hbl⟩ := List.mem_flatMap.1 hbl
    obtain ⟨x, hx, rfl⟩ := List.mem_map.1 hbl
    have := ih _ x hx
    simp
    omega
 exact go 6 r
theorem perm_ord {a b c : HObj} {js hp : List HObj} : (a :: b :: c :: (js ++ hp)).Perm ((js ++ [b]) ++ ([a] ++ (c :: hp))) := by
 have h : ((js ++ [b]) ++ ([a] ++ (c :: hp))).Perm ([b] ++ js ++ ([a] ++ (c :: hp))) := List.Perm.append_right _ List.perm_append_comm
 refine List.Perm.trans ?_ h.symm
 simp only [List.cons_append, List.nil_append]
 have h2 : (js ++ a :: c :: hp).Perm (a :: c :: (js ++ hp)) := List.perm_middle.trans (List.Perm.cons a List.perm_middle)
 exact (List.Perm.swap b a _).trans (List.Perm.cons b h2.symm)
theorem perm_ord2 {a b c : HObj} {js hp : List HObj} : ((js ++ [b]) ++ ([a] ++ (c :: hp))).Perm (a :: b :: ((js ++ [c]) ++ hp)) := by
 refine perm_ord.symm.trans (List.Perm.cons a (List.Perm.cons b ?_))
 rw [List.append_assoc]
 exact List.perm_middle.symm
set_option maxHeartbeats 8000000 in
theorem oseqS_c (r : Nat) (h0 : r ≠ 0) (hr : r < 32) (vr : Value) : SeqN Tryz.prog 91 [vr] [Zu vr (dP 1 false (dI (r : Int)))] (fun x => dIf (x ∈ ordS r) (dS ZCE (ZAA x))) (ordS r) (ZBw r).length := ⟨fun l J hY js hj => ⟨fun P0 B w0 hp vs W hh hl0 hv => by
 refine (callsIn_wide (n := 0)).1 (callsIn_of_wp_marks Tryz.func91 rfl trivial ?_ rfl)
 refine wpIn_wide.2 ?_
 have hf0 := ZAg (m := 16) hl0 hv
 have hsz : vs.toArray.size = 2 := by simpa using hl0
 rw [hsz]
 have hnt : Tryz.f91.ntmps = 18 := rfl
 rw [hnt]
 simp only [List.length_cons, List.length_nil, Nat.reduceAdd, Nat.reduceSub, List.replicate_succ, List.replicate_zero, List.cons_append, List.nil_append, List.map_nil, List.map_cons] at hf0 hh ⊢
 refine wp_seq (Code.wp_mono ?_ (WC.on (Q := fun e f q => e = .normal /\ f = [dX (.func (.yield l) #[] #[]), dX vr, dP 1 false (dX (.func (.yield l) #[] #[]))] ++ List.replicate 15 (dX undef) /\ q = js ++ [Zu vr (dP 1 false (dI (r : Int)))] ++ hp) ?_ hh hf0))
 rotate_left
 ·((repeat' (first | refine WL.nil ?_ | refine WC.region ?_ | (apply ZJ; (focus (first | exact wN | (apply ZG; (exact wY); ((first | (apply SY.box; (exact oD); (exact hD)) | fail); all_goals infer_instance)))); dsimp only [ZB, z0, z1]))); all_goals (first | ((repeat clear hK); (repeat clear Kx))))
  exact ⟨rfl, rfl, rfl⟩
 rintro e a1 w1 ⟨f1, q1, ⟨rfl, rfl, rfl⟩, hh1, hf1⟩
 show Code.wp _ _ _ _ _
 simp only [List.replicate_succ, List.replicate_zero, List.cons_append, List.nil_append] at hf1 hh1
 refine wp_seq (Code.wp_mono ?_ (WC.on (Q := fun e f q => e = .normal /\ ∃ v2 vq, f = [dX (.func (.yield l) #[] #[]), dP 1 false (dI (r : Int)), dX v2, dX undef, dX undef, dI (r : Int), dX (.func (.func 110) #[] [vq].toArray)] ++ List.replicate 11 (dX undef)
   /\ q = (js ++ [Zu v2 (dP 1 false (dX (.func (.yield l) #[] #[])))]) ++ ([Zu vq (dP 1 false (dI (r : Int)))] ++ (Zu vr (dP 1 false (dI (r : Int))) :: hp))) ?_ hh1 hf1))
 rotate_left
 ·refine WC.pin 2 rfl fun v2 => ?_
  refine WC.use (d := dP 1 false (dI (r : Int))) 1 rfl (.tail _ (List.mem_append_left _ (List.mem_append_right _ (.head _)))) ?_
  dsimp only [z0, z1]
  ((repeat' (first | (apply WL.opN; exact yF; dsimp only [ZB, z0, z1]) | refine WL.nil ?_ | refine WC.region ?_ |  (refine WL.callC (hp1 := []) (caps := []) (ordered_k r) Tryz.call67 OpD.f (by (exact aD)) ?_; rintro d' hp2 ⟨vq, rfl, rfl⟩; dsimp only [ZB, z0, z1, List.cons_append, List.nil_append]; refine WL.perm (perm_ord2 (js := js)).symm ?_))); all_goals (first | ((repeat clear hK); (repeat clear Kx))))
  exact ⟨rfl, _, _, rfl, rfl⟩
 rintro e a2 w2 ⟨f2, q2, ⟨rfl, v2, vq, rfl, rfl⟩, hh2, hf2⟩
 show Code.wp _ _ _ _ _
 simp only [List.replicate_succ, List.replicate_zero, List.cons_append, List.nil_append] at hf2
 refine wp_block ?_
 refine wp_rangeC (hs0 := js ++ [Zu v2 (dP 1 false (dX (.func (.yield l) #[] #[])))]) (hk := [Zu vq (dP 1 false (dI (r : Int)))]) (hp := Zu vr (dP 1 false (dI (r : Int))) :: hp) (xs := ZBw r) (D := fun bl => dIf (bl ∈ ZBw r) (dS ZCE (ZAA bl))) (sinH l v2 J) _
  (fun bl => [dX (.func (.yield l) #[] #[]), dA, dX v2, dIf (bl ∈ ZBw r) (dS ZCE (ZAA bl)), dX undef, dX (.int .i64 (r : Int)), dX (.func (.func 110) #[] [vq].toArray), dIf (bl ∈ ZBw r) (dS ZCE (ZAA bl)), dX undef, dX undef, dX undef, dX undef, dX undef, dX undef, dX undef, dX undef, dX undef, dX undef]) hh2 hf2 (OpD.t rfl) Tryz.call110 (oseq_c r h0 hr vq) ⟨js, hj, rfl⟩ (by repeat (first | exact FixF.nil | apply FixF.x | apply FixF.a)) ?_ ?_ ?_
 ·intro l' bl q
  refine WR.region rfl (I.WL.op rfl (SY.assign (OpD.t rfl)) (I.WL.nil ⟨rfl, rfl, rfl⟩))
 ·rintro l' pre bl hs q hlt ⟨js1, hJ1, rfl⟩
  refine WR.know (t := 7) rfl (fun _ _ _ h => h.1) fun hmem => ?_
  rw [dIf_eq hmem, List.append_assoc]
  have hbb : ∀ m ∈ ZAA bl, 0 <= m /\ m <= 1048576 := fun m hm => by
   obtain ⟨b, hb, rfl⟩ := List.mem_map.1 hm
   have := ord_small r hr bl hmem b hb
   omega
  have hnN : (pre.filter fun bl => !((ZAA bl).any multB)).length < (ZBw r).length := Nat.lt_of_le_of_lt (List.length_filter_le _ _) hlt
  refine WR.block (WR.use (d := dP 1 false (dX (.func (.yield l) #[] #[]))) 2 rfl (List.mem_append_right _ (.head _)) ?_)
  dsimp only [z0, z1]
  cases hsg : (ZAA bl).any multB with
  | true =>
   have hc := cntI_p (ZAA bl) multB
   rw [hsg] at hc
   ((repeat' (first | (apply I.WL.opN; exact yF; dsimp only [ZB, z0, z1]) | refine I.WL.nil ?_ | refine ZB1 fun Kx hK => ?_ | (refine hK _ _ ?_; clear hK) | refine WR.region rfl ?_ | (apply I.ZJ; (focus (first | exact wN | (apply ZG; (exact wY); ((first | (apply SY.call hc Tryz.call92; exact ArgsD.cons (OpD.t rfl) (ArgsD.cons ⟨le_fun Tryz.call93 fun x => mult_p x.1 (hbb x.1 x.2)⟩ ArgsD.nil)) | (exact ZBS (OpD.t rfl)) | (apply Z6; (exact oD); (with_reducible rfl); (exact oD)) | fail); all_goals infer_instance)))); dsimp only [ZB, z0, z1]) | (apply WR.condF; (exact oD); (with_reducible rfl)) | refine WR.skip ?_ | refine InBlockD.n ?_)); all_goals (first | ((repeat clear hK); (repeat clear Kx))))
   refine ⟨rfl, _, ⟨js1, ?_, rfl⟩, by rw [List.append_assoc]⟩
   rw [List.filter_append, List.filter_cons_of_neg (by rw [hsg]; decide), List.filter_nil, List.append_nil]
   exact hJ1
  | false =>
   have hc := cntI_p (ZAA bl) multB
   rw [hsg] at hc
   have hmS : bl ∈ ordS r := List.mem_filter.2 ⟨hmem, by rw [hsg]; rfl⟩
   ((repeat' (first | (apply I.WL.opN; exact yF; dsimp only [ZB, z0, z1]) | refine I.WL.nil ?_ | refine ZB1 fun Kx hK => ?_ | (refine hK _ _ ?_; clear hK) | refine WR.region rfl ?_ |  (refine I.WL.yieldT (gi := 1) (s := 12) rfl rfl hY hnN hJ1 (OpD.t rfl) (OpD.tle rfl (dIf_le hmS)) fun js' hj' => ?_; dsimp only [ZB, z0, z1]) | (apply I.ZJ; (focus (first | exact wN | (apply ZG; (exact wY); ((first | (apply SY.call hc Tryz.call92; exact ArgsD.cons (OpD.t rfl) (ArgsD.cons ⟨le_fun Tryz.call93 fun x => mult_p x.1 (hbb x.1 x.2)⟩ ArgsD.nil)) | (exact SY.not (b := false) (OpD.t rfl)) | (apply SY.load; exact tyFz; exact OpD.t rfl) | (exact ZBS (OpD.t rfl)) | ((first | apply SY.move | apply SY.assign | apply SY.not) <;> (exact oD)) | (apply ZAJ; (exact oD); (with_reducible rfl); (exact oD)) | fail); all_goals infer_instance)))); dsimp only [ZB, z0, z1]) | ((first | refine I.Zd rfl rfl rfl (fun h => ?_) (fun h => ?_) | refine I.Zc rfl rfl rfl (fun h => ?_) (fun h => ?_) | refine I.ZY rfl rfl rfl (fun h => ?_) (fun h => ?_)) <;> (first | (exfalso; first | omega | contradiction) | (dsimp only [z0, z1]))) | (apply WR.condF; (exact oD); (with_reducible rfl)) | refine WR.skip ?_ | refine InBlockD.n ?_)); all_goals (first | ((repeat clear hK); (repeat clear Kx))))
   refine ⟨rfl, _, ⟨js', ?_, rfl⟩, by rw [List.append_assoc]⟩
   rw [List.filter_append, List.filter_cons_of_pos (by rw [hsg]; decide), List.filter_nil]
   exact hj'
 ·rintro k hs w3 ⟨js1, hJ1, rfl⟩ hh3 hrd
  show LeavesInM _ _ _ _ _ _ _ _ _
  rw [hf2.defers]
  have hK : w3.heap[k]? = some (.deferred (some [])) := hh3.ok (ZAW k (.deferred (some []))) (by simp)
  refine ⟨by simp, .inl ⟨_, _, rfl, run_takeDeferred hK, _, results_none rfl _ _ _, ?_⟩⟩
  have hh6 := (Hp.putObj (o' := .deferred none) hh3).drop
  obtain ⟨hh7, _⟩ := hh6.perm perm_ord2
  exact ⟨_, dA, js1 ++ [Zu vr (dP 1 false (dI (r : Int)))], rfl, ⟨js1, hJ1, rfl⟩, hh7.drop.drop, trivial⟩⟩⟩
end
section
open Go.RowKit
def actZ (a : Act) : Act := { tmps := a.tmps, defers := [] }
structure WK (K : Act -> World -> Prop) (P0 : Nat -> Prop) (B : Nat) (w0 : World) (ds : List Deferred) (fr : List Dat) (hp : List HObj) : Prop where
 of ::
 out : ∀ (a : Act) (w : World), a.defers = ds -> Hp P0 B w0 hp w -> Fr (Imm P0 B hp) w (actZ a) fr -> K a w
abbrev WY (P : Program) (QR : Exit -> Act -> World -> Prop) (P0 : Nat -> Prop) (B : Nat) (w0 : World) (ds : List Deferred) (c : Code) (fr : List Dat) (hp : List HObj) : Prop := WK (c.wp P QR) P0 B w0 ds fr hp
abbrev WV (P : Program) (ops : Array Oper) (QR : Exit -> Act -> World -> Prop) (P0 : Nat -> Prop) (B : Nat) (w0 : World) (ds : List Deferred) (rest : List Oper) (fr : List Dat) (hp : List HObj) : Prop := WK (wpList P ops QR rest) P0 B w0 ds fr hp
section
variable {P : Program} {ops : Array Oper} {QR : Exit -> Act -> World -> Prop} {K : Act -> World -> Prop} {P0 : Nat -> Prop} {B : Nat} {w0 : World} {ds : List Deferred} {fr fr' : List Dat} {hp hp' : List HObj} {o : Oper} {rest : List Oper} {d : Dat} {x y : Code}
theorem WK.perm (h : hp.Perm hp') (k : WK K P0 B w0 ds fr hp') : WK K P0 B w0 ds fr hp := WK.of fun a w ha hh hf =>
 let ⟨h1, h2⟩ := hh.perm h
 k.out a w ha h1 (hf.mono fun d _ hd => d.weak hd fun k hk => (h2 k).1 hk)
theorem WK.drop {ob : HObj} (k : WK K P0 B w0 ds fr hp) : WK K P0 B w0 ds fr (ob :: hp) := WK.of fun a w ha hh hf => k.out a w ha hh.drop (hf.mono fun d _ hd => d.weak hd Imm.sub)
theorem WK.weakF (h : LeF fr fr') (k : WK K P0 B w0 ds fr' hp) : WK K P0 B w0 ds fr hp := WK.of fun a w ha hh hf => k.out a w ha hh (hf.weak h.out.1 h.out.2)
theorem WV.op (hg : o.guard = none) (h : SY P ops hp o fr d) (k : WV P ops QR P0 B w0 ds rest (ZB fr o.dst d) hp) : WV P ops QR P0 B w0 ds (o :: rest) fr hp := WK.of fun a w ha hh hf =>
 ZA1 hg h hh hf fun a' w' ha' hh' hf' => k.out a' w' (ha'.trans ha) hh' hf'
theorem WV.sw {β : Type} {H : β -> List HObj} {D : β -> Dat} (h : SW P ops hp H D o fr) (k : ∀ x, WV P ops QR P0 B w0 ds rest (ZB fr o.dst (D x)) (H x)) : WV P ops QR P0 B w0 ds (o :: rest) fr hp := WK.of fun a w ha hh hf => by
 unfold wpList
 have hwant : Region.wanted o (yielded ops a.tmps) = true := by simp [Region.wanted, h.guard]
 rw [if_pos hwant]
 refine .inl (h.out hh (a := a) ⟨hf.size, fun t _ d hd => hf.rd t d hd⟩ _ _ fun x v w' hh' hrd hd => ?_)
 have hf2 := Fr.put (x := o.dst) (hf.mono fun d u hu => hrd d u hu) hd
 refine (k x).out (a.put o.dst v) w' ?_ hh' ?_
 ·rw [<- ha]; cases o.dst <;> rfl
 ·have e1 : actZ (a.put o.dst v) = (actZ a).put o.dst v := by cases o.dst <;> rfl
  rw [e1]; exact hf2
theorem WV.nil (k : WK (QR .normal) P0 B w0 ds fr hp) : WV P ops QR P0 B w0 ds [] fr hp := k
theorem WY.region {id : Nat} {l : List Oper} (h : WV P l.toArray QR P0 B w0 ds l fr hp) : WY P QR P0 B w0 ds (.region id l.toArray false) fr hp := WK.of fun a w ha hh hf => wp_region_lit (h.out a w ha hh hf)
theorem WY.seq (h : WY P (Exit.then (y.wp P QR) QR) P0 B w0 ds x fr hp) : WY P QR P0 B w0 ds (.seq x y) fr hp := WK.of fun a w ha hh hf => wp_seq (h.out a w ha hh hf)
theorem WY.skip (h : WK (QR .normal) P0 B w0 ds fr hp) : WY P QR P0 B w0 ds .skip fr hp := WK.of fun a w ha hh hf => wp_skip (h.out a w ha hh hf)
theorem WY.exit {id : Nat} (h : WK (QR (.exit id)) P0 B w0 ds fr hp) : WY P QR P0 B w0 ds (.exit id) fr hp := WK.of fun a w ha hh hf => wp_exit (h.out a w ha hh hf)
theorem WY.ret (h : WK (QR .ret) P0 B w0 ds fr hp) : WY P QR P0 B w0 ds .ret fr hp := WK.of fun a w ha hh hf => wp_ret (h.out a w ha hh hf)
theorem WY.block {id : Nat} (h : WY P (Exit.inBlock id QR) P0 B w0 ds x fr hp) : WY P QR P0 B w0 ds (.block id x) fr hp := WK.of fun a w ha hh hf => wp_block (h.out a w ha hh hf)
theorem WY.condT {c : Operand} {b : Bool} (hc : OpD fr c (dB b)) (hb : b = true) (h : WY P QR P0 B w0 ds x fr hp) : WY P QR P0 B w0 ds (.cond c x y) fr hp := WK.of fun a w ha hh hf => by
 have hev : (actZ a).eval c = .bool b := hc.ev hf
 exact wp_cond_true (by rw [hb] at hev; exact hev) (h.out a w ha hh hf)
theorem WY.condF {c : Operand} {b : Bool} (hc : OpD fr c (dB b)) (hb : b = false) (h : WY P QR P0 B w0 ds y fr hp) : WY P QR P0 B w0 ds (.cond c x y) fr hp := WK.of fun a w ha hh hf => by
 have hev : (actZ a).eval c = .bool b := hc.ev hf
 exact wp_cond_false (by rw [hb] at hev; exact hev) (h.out a w ha hh hf)
theorem WY.seqK (h : ∀ Kx : List Dat -> List HObj -> Prop, (∀ f p, WY P QR P0 B w0 [] y f p -> Kont Kx f p) -> WC P (ThenD (Kont Kx) (fun _ _ _ => False)) x fr hp) : WY P QR P0 B w0 [] (.seq x y) fr hp := WK.of fun a w ha hh hf => by
 have ha2 : actZ a = a := by cases a; cases ha; rfl
 rw [ha2] at hf
 refine wp_seq (Code.wp_mono ?_ ((h (fun f p => WY P QR P0 B w0 [] y f p) fun f p k => ⟨k⟩).on hh hf))
 rintro e a' w' ⟨f, p, q, hh', hf'⟩
 cases e with
 | normal =>
  have hk : Kont (fun f p => WY P QR P0 B w0 [] y f p) f p := q
  have ha3 : actZ a' = a' := by
   have := hf'.defers
   cases a'; cases this; rfl
  exact hk.out.out a' w' hf'.defers hh' (by rw [ha3]; exact hf')
 | _ => exact (q : False).elim
theorem WY.loop {X : Type} {c : Code} (F : X -> List Dat) (H : X -> List HObj) (D : X -> List Deferred) (μ : X -> Nat) (p : X -> Prop) (x0 : X) (h0 : p x0)
  (round : ∀ (x : X) (K : Act -> World -> Prop), p x -> (∀ x', p x' -> μ x' < μ x -> WK K P0 B w0 (D x') (F x') (H x')) -> WY P (Exit.then K QR) P0 B w0 (D x) c (F x) (H x)) :
  WY P QR P0 B w0 (D x0) (.loop c) (F x0) (H x0) := by
 have key : ∀ (n : Nat) (x : X), p x -> μ x < n -> WK (Code.rounds P c QR n) P0 B w0 (D x) (F x) (H x) := by
  intro n
  induction n with
  | zero => intro x _ h; omega
  | succ n ih => exact fun x hx hn => WK.of fun a w ha hh hf => (round x (Code.rounds P c QR n) hx fun x' hx' hlt => ih x' hx' (by omega)).out a w ha hh hf
 exact WK.of fun a w ha hh hf => wp_loop_rounds _ ((key (μ x0 + 1) x0 h0 (by omega)).out a w ha hh hf)
theorem WY.loopU {X : Type} {c : Code} {D : X -> List Deferred} (ups : X -> List (Nat × Dat)) (H : X -> List HObj) (μ : X -> Nat) (p : X -> Prop) (x0 : X) (h0 : p x0) (hF : LeF fr (ZL fr (ups x0))) (hH : hp = H x0) (hD : ds = D x0)
  (round : ∀ (x : X) (K : Act -> World -> Prop), p x -> (∀ x', p x' -> μ x' < μ x -> WK K P0 B w0 (D x') (ZL fr (ups x')) (H x')) -> WY P (Exit.then K QR) P0 B w0 (D x) c (ZL fr (ups x)) (H x)) : WY P QR P0 B w0 ds (.loop c) fr hp := by
 subst hH
 subst hD
 exact WK.weakF hF (WY.loop (fun x => ZL fr (ups x)) H D μ p x0 h0 round)
theorem WV.nilT (k : WK K P0 B w0 ds fr hp) : WV P ops (Exit.then K QR) P0 B w0 ds [] fr hp := k
theorem WY.skipT (k : WK K P0 B w0 ds fr hp) : WY P (Exit.then K QR) P0 B w0 ds .skip fr hp := WY.skip k
theorem WK.blockN {id : Nat} (k : WK (QR .normal) P0 B w0 ds fr hp) : WK (Exit.inBlock id QR .normal) P0 B w0 ds fr hp := k
theorem WK.thenX {id : Nat} (k : WK (QR (.exit id)) P0 B w0 ds fr hp) : WK (Exit.then K QR (.exit id)) P0 B w0 ds fr hp := k
theorem WK.thenN (k : WK K P0 B w0 ds fr hp) : WK (Exit.then K QR .normal) P0 B w0 ds fr hp := k
theorem WK.blockX {id : Nat} (k : WK (QR .normal) P0 B w0 ds fr hp) : WK (Exit.inBlock id QR (.exit id)) P0 B w0 ds fr hp := WK.of fun a w ha hh hf => by
 show (if id = id then QR .normal a w else QR (.exit id) a w)
 rw [if_pos rfl]
 exact k.out a w ha hh hf
end
theorem WY.range {P : Program} {QR : Exit -> Act -> World -> Prop} {P0 : Nat -> Prop} {B : Nat} {w0 : World} {ds : List Deferred} {g : Operand} {p : Tmp} {assign body : Code} {fr : List Dat} {gf : FuncId} {lb : List Value} {hk hp hs0 : List HObj} {α : Type} {D : α -> Dat} {xs : List α} (H : List α -> List HObj -> Prop) (F0 : List Dat) (F1 : α -> List Dat)
  (hg : OpD fr g (dX (.func (.func gf) #[] lb.toArray))) (he : ZAG P gf) {N : Nat} (hS : SeqN P gf lb hk D xs N) (h0 : H [] hs0) (hF : FixF fr F0)
  (hassign : ∀ (l : Nat) (x : α) (q : List HObj), WR P l (fun e f q' => e = .normal /\ q' = q /\ f = F1 x) assign (F0.set p (D x)) q)
  (hbody : ∀ (l : Nat) (pre : List α) (x : α) (hs q : List HObj), pre.length < N -> H pre hs -> WR P l (fun e _ q' => e = .normal /\ ∃ hs', H (pre ++ [x]) hs' /\ q' = hs' ++ q) body (F1 x) (hs ++ q))
  (hpost : ∀ (k : Nat) (hs : List HObj), H xs hs -> WK (QR .normal) P0 B w0 ({ target := .collected k, args := #[] } :: ds) fr (ZAW k (.deferred (some [])) :: (hs ++ (hk ++ hp)))) :
  WY P QR P0 B w0 ds (.rangeFunc g #[p] assign body) fr (hs0 ++ (hk ++ hp)) := WK.of fun a w ha hh hf => by
 refine wp_rangeN H F0 F1 hh hf hg he hS h0 hF hassign hbody fun k hs w' hH hh' hrd => ?_
 rw [<- ha] at hpost
 exact (hpost k hs hH).out _ w' rfl hh' ⟨rfl, hf.size, hrd⟩
theorem WY.range1 {P : Program} {QR : Exit -> Act -> World -> Prop} {P0 : Nat -> Prop} {B : Nat} {w0 : World} {ds : List Deferred} {g : Operand} {p q id : Nat} {ty : TypeId} {ps : String} {af : Array Edge} {body : Code} {fr : List Dat} {gf : FuncId} {lb : List Value} {hk hp hs0 : List HObj} {α : Type} {D : α -> Dat} {xs : List α} (H : List α -> List HObj -> Prop) (F0 : List Dat)
  (hg : OpD fr g (dX (.func (.func gf) #[] lb.toArray))) (he : ZAG P gf) {N : Nat} (hS : SeqN P gf lb hk D xs N) (h0 : H [] hs0) (hF : FixF fr F0) (hpl : p < fr.length)
  (hbody : ∀ (l : Nat) (pre : List α) (x : α) (hs q' : List HObj), pre.length < N -> H pre hs -> WR P l (fun e _ q2 => e = .normal /\ ∃ hs', H (pre ++ [x]) hs' /\ q2 = hs' ++ q') body ((F0.set p (D x)).set q (D x)) (hs ++ q'))
  (hpost : ∀ (k : Nat) (hs : List HObj), H xs hs -> WK (QR .normal) P0 B w0 ({ target := .collected k, args := #[] } :: ds) fr (ZAW k (.deferred (some [])) :: (hs ++ (hk ++ hp)))) :
  WY P QR P0 B w0 ds (.rangeFunc g #[p] (.region id #[{ dst := some q, op := .assign (.tmp p), type := ty, pos := ps, after := af, guard := none }] false) body) fr (hs0 ++ (hk ++ hp)) :=
 WY.range H F0 (fun x => (F0.set p (D x)).set q (D x)) hg he hS h0 hF (fun l x q' => WR.region (ops := [_]) rfl (I.WL.op rfl (SY.assign (OpD.t (by
  rw [List.getElem?_set]
  rw [if_pos rfl, if_pos (by rw [<- hF.out.1]; exact hpl)]))) (I.WL.nil ⟨rfl, rfl, rfl⟩))) hbody hpost
def markD (k : Nat) : Deferred := { target := .collected k, args := #[] }
def markO (k : Nat) : HObj := ZAW k (.deferred (some []))
theorem leavesM {F : Fence} {n : Nat} {P : Program} {fn : Func} {tmps : Array Value} {R : Ending -> World -> Prop} {P0 : Nat -> Prop} {B : Nat} {w0 : World} {hp : List HObj} {u : FrameMode} (hu : u ≠ .run) :
  ∀ (ks : List Nat) (w : World), Hp P0 B w0 (ks.map markO ++ hp) w -> (∀ w', Hp P0 B w0 hp w' -> (∀ (d : Dat) (v : Value), d.rd (Imm P0 B (ks.map markO ++ hp)) w v -> d.rd (Imm P0 B hp) w' v) -> LeavesInM F n P fn tmps R [] u w') -> LeavesInM F n P fn tmps R (ks.map markD) u w
 | [], w, hh, h => h w hh fun _ _ hd => hd
 | k :: ks, w, hh, h => by
  have hK : w.heap[k]? = some (.deferred (some [])) := hh.ok (markO k) (by simp)
  refine ⟨hu, .inl ⟨k, _, rfl, run_takeDeferred hK, ?_⟩⟩
  have hh2 : Hp P0 B w0 (ZAW k (.deferred none) :: (ks.map markO ++ hp)) _ := Hp.putObj (o' := .deferred none) hh
  exact leavesM hu ks _ hh2.drop fun w' hh' hd' => h w' hh' fun d v hd => hd' d v (d.weak (ZAH (o := .deferred (some [])) (o' := .deferred none) hd) Imm.sub)
end
section
open Go.RowKit
section
variable {P : Program} {ops : Array Oper} {md : Region.Mode} {fr fr' : List Dat} {hp : List HObj} {C : List HObj -> Prop}
inductive WRd (P : Program) (ops : Array Oper) (C : List HObj -> Prop) (Q : List Dat -> Prop) : List Nat -> List Dat -> Prop
 | nil {fr : List Dat} : Q fr -> WRd P ops C Q [] fr
 | read {i : Nat} {o : Oper} {r : List Nat} {fr : List Dat} {d : Dat} : ops[i]? = some o -> (∀ hp', C hp' -> SYG P ops hp' o fr d) -> WRd P ops C Q r (ZB fr o.dst d) -> WRd P ops C Q (i :: r) fr
structure W2 (P : Program) (ops : Array Oper) (C : List HObj -> Prop) (R : List Dat -> List HObj -> Prop) (i j : Nat) (fr : List Dat) (hp : List HObj) : Prop where
 out : ∃ oi oj, ops[i]? = some oi /\ ops[j]? = some oj /\ ∃ (β : Type) (H : β -> List HObj) (D : β -> Dat), SW P ops hp H D oi fr /\ (∀ x, C (H x)) /\ ∀ x, ∃ (γ : Type) (H2 : γ -> List HObj) (D2 : γ -> Dat), SW P ops (H x) H2 D2 oj (ZB fr oi.dst (D x)) /\ (∀ y, C (H2 y)) /\ ∀ y, R (ZB (ZB fr oi.dst (D x)) oj.dst (D2 y)) (H2 y)
theorem W2.id {R : List Dat -> List HObj -> Prop} {i j : Nat} (h : W2 P ops C R i j fr hp) : W2 P ops C R i j fr hp := h
theorem WRd.id {Q : List Dat -> Prop} {r : List Nat} (h : WRd P ops C Q r fr) : WRd P ops C Q r fr := h
theorem SW.alloc {dst : Option Tmp} {ty : TypeId} {ps : String} {af : Array Edge} {T : TypeId} {n : Nat} {agg : Bool} {z : Value} (hz : TyZ P T z) (hs : (dX z).Shape n agg) :
  SW P ops hp (fun b : Nat => ZO b T n agg (dX z) :: hp) (fun b => dX (.pointer (some ⟨b, 0, none⟩))) { dst := dst, op := .alloc T, type := ty, pos := ps, after := af, guard := none } fr := ⟨rfl, fun {P0 B w0 w a} hh ho K Q hk => by
 obtain ⟨cs, k1, k0, k2, k3, k4⟩ := hs (fun _ => True) w z rfl
 have hrun : (execOp a.eval { dst := dst, op := .alloc T, type := ty, pos := ps, after := af, guard := none }).run P w = .ok (.value (.pointer (some ⟨w.heap.size, 0, none⟩))) (w.alloc (.cells cs.toArray T)) := by
  cases hq : P.info? T with
  | none => have := hz.out; simp [hq] at this
  | some i =>
   have hz' : i.zero = some z := by have := hz.out; simpa [hq] using this
   unfold execOp
   simp [Instr.alloc, zeroValue, typeInfo, hq, hz', newVar, newRow, k3]
 unfold Oper.wp
 rw [hrun]
 have hx := Ext.of_alloc w (.cells cs.toArray T)
 have hb : ∀ k, (ZO w.heap.size T n agg (dX z)).blk = some k -> w.heap.size <= k /\ k < (w.alloc (.cells cs.toArray T)).heap.size := fun k hk => by
  cases hk
  exact ⟨Nat.le_refl _, by simp⟩
 exact hk w.heap.size _ _ (hh.push hx hb ⟨cs, z, Ze w _, k1, k0, k2, k4, rfl⟩) (fun d u hd => Za hx (fun k hk => (hb k hk).1) hd) rfl⟩
end
end
section
open Go.RowKit
section
variable {P : Program} {ops : Array Oper} {hp : List HObj} {fr : List Dat} {d : Dat} {dst : Option Tmp} {ty : TypeId} {ps : String} {af : Array Edge} {t e : TypeId} {n : Nat} {z : Value} {bytes : Nat} {ag : Bool}
theorem SW.storeK {x : Operand} {t b n : Nat} {T T2 : TypeId} {agg : Bool} {d0 : Dat} (hT : TyI P T n agg) (hp0 : OpD fr (.tmp t) (dX (.pointer (some ⟨b, 0, none⟩)))) (hx : OpD fr x d) (hs : d.Shape n agg) :
  SW P ops (ZO b T2 n agg d0 :: hp) (fun _ : Unit => ZO b T2 n agg d :: hp) (fun _ => dX undef) { dst := none, op := .store T (.tmp t) x, type := ty, pos := ps, after := af, guard := none } fr := ⟨rfl, fun {P0 B w0 w a} hh ho K Q hk => by
 obtain ⟨cs, u, c1, c2, c0, c3, c4, c5⟩ := hh.ok (ZO b T2 n agg d0) (by simp)
 have h1 : d.rd (Imm P0 B (ZO b T2 n agg d0 :: hp)) w (a.eval x) := hx.get (by simp [Op.operands]) ho
 obtain ⟨cs', k1, k0, k2, k3, k4⟩ := hs _ _ _ h1
 have h2 : a.eval (.tmp t) = .pointer (some ⟨b, 0, none⟩) := hp0.get (by simp [Op.operands]) ho
 have hr := ZBd (u := a.eval x) hT.size c1 c2 k1 k2 k3
 have hrun : (execOp a.eval { dst := none, op := .store T (.tmp t) x, type := ty, pos := ps, after := af, guard := none }).run P w = .ok .skip (w.setRow b cs'.toArray) := by
  unfold execOp
  simp only [h2, Sem.run_bind, hr, Result.andThen_ok, Sem.run_pure]
 unfold Oper.wp
 rw [hrun]
 have hgr : w.grownBy (w.setRow b cs'.toArray) (ZO b T2 n agg d0).blk := Z2
 have hok : (ZO b T2 n agg d).ok (fun k => Imm P0 B (ZO b T2 n agg d0 :: hp) k /\ k < w.heap.size) (w.setRow b cs'.toArray) :=
  ⟨cs', a.eval x, setRow_heap w b _ _ _ _ c1, k1, k0, k2, k4, d.grown (d.bound h1) hgr (fun k hk hc => hc.1.2 _ (by simp) hk)⟩
 exact hk () undef _ (hh.write hgr (.inl rfl) hok) (fun d' u hd => ZI (o' := ZO b T2 n agg d) hgr (.inl rfl) hd) rfl⟩
theorem SW.appK {s y : Operand} (E : ElT P t e n z bytes ag) {α : Type} {R : Rel α} {_gR : Good R} {v : Value} {xs ys : List α} (hs : OpD fr s (dX v)) (hy : OpD fr y (dS (ArrK n R) ys)) (hby : 0 < bytes)
  (hlen : (xs.length + ys.length) * bytes <= 140737488355328) :
  SW P ops (ZS v e n R xs :: hp) (fun v' : Value => ZS v' e n R (xs ++ ys) :: hp) (fun v' => dX v') { dst := dst, op := .call { callee := .builtin .append, args := #[s, y], argTypes := #[t, t] }, type := ty, pos := ps, after := af, guard := none } fr := ⟨rfl, fun {P0 B w0 w a} hh ho K Q hk => by
 obtain ⟨ad, cap, hv, c1, c2, c0, c3⟩ := (hy.get (by simp [Op.operands, Call.operands]) ho : ArrK n R _ _ _ _)
 have hm : xs.length + ys.length <= maxLen := by
  have : (xs.length + ys.length) * 1 <= (xs.length + ys.length) * bytes := Nat.mul_le_mul_left _ hby
  simp only [maxLen]; omega
 have hse : a.eval s = v := hs.get (by simp [Op.operands, Call.operands]) ho
 cases ad with
 | none =>
  have hy0 : ys = [] := by
   cases ys with
   | nil => rfl
   | cons y ys => obtain ⟨_, _, _, _, _, _, hc, _⟩ := c3 0 (by simp); cases hc
  subst hy0
  obtain ⟨us, _, _, _, hown, _⟩ := hh.ok (ZS v e n R xs) (by simp)
  have hrun : (execOp a.eval { dst := dst, op := .call { callee := .builtin .append, args := #[s, y], argTypes := #[t, t] }, type := ty, pos := ps, after := af, guard := none }).run P w = .ok (.value v) w := by
   have hr := ZAM (P := P) (ty := ty) (w := w) E hown cap
   have hv' : a.eval y = .slice none 0 cap := hv
   unfold execOp
   simp only [resolve, invoke, builtin, List.map_toArray, List.map_cons, List.map_nil, hse, hv', Sem.run_bind, Sem.run_pure, Result.andThen_ok]
   rw [hr]
   simp
  unfold Oper.wp
  rw [hrun]
  have := hk v v w
  simp only [List.append_nil] at this
  exact this hh (fun _ _ h => h) rfl
 | some ad =>
  have hch : ∀ k : Nat, ∃ cs : List Value, ∀ h : k < ys.length, cs.length = n /\ (∀ c ∈ cs, c.oneCell' = true) /\ (∀ j c, cs[j]? = some c -> w.cell? (ad.add (k * n + j)) = some c) /\ R (Imm P0 B (ZS v e n R xs :: hp)) w (.agg cs.toArray) ys[k] := fun k => by
   by_cases hk : k < ys.length
   ·obtain ⟨cs, b, off, r1, r2, r3, r4, r5, r6⟩ := c3 k hk
    cases r4
    exact ⟨cs, fun _ => ⟨r2, r3, fun j c hc => by rw [Addr.add_lit, <- Nat.add_assoc]; exact r6 j c hc, r1⟩⟩
   ·exact ⟨[], fun h => absurd h hk⟩
  obtain ⟨f, hfch⟩ := Classical.axiomOfChoice hch
  have hmem : ∀ u ∈ (List.range ys.length).map f, ∃ j, j < ys.length /\ u = f j := fun u hu => by
   simp only [List.mem_map, List.mem_range] at hu
   obtain ⟨j, hj, rfl⟩ := hu
   exact ⟨j, hj, rfl⟩
  obtain ⟨v', w', hr, r1, r2, r3⟩ := ZCA (ty := ty) E hh (ad := ad) (c := cap) (ys := ys) (news := (List.range ys.length).map f) (by simp) (fun j u hu => by
    have hlt := (List.getElem?_eq_some_iff.1 hu).1
    have hfl : ((List.range ys.length).map f).flatten.length = ys.length * n := by
     rw [ZCh (n := n) fun u hu => by obtain ⟨j, hj, rfl⟩ := hmem u hu; exact (hfch j hj).1]; simp
    rw [hfl] at hlt
    have hq : j / n < ys.length := (Nat.div_lt_iff_lt_mul c0).2 hlt
    have hr : j % n < n := Nat.mod_lt _ c0
    have hj : j = (j / n) * n + j % n := by rw [Nat.mul_comm]; exact (Nat.div_add_mod j n).symm
    have hlen' := (hfch (j / n) hq).1
    have hg := Zt (us := (List.range ys.length).map f) (n := n) (k := j / n) (j := j % n) (fun u hu => by obtain ⟨j, hj, rfl⟩ := hmem u hu; exact (hfch j hj).1) (by simpa using hq) (c := (f (j / n))[j % n]'(by omega)) (by simp)
    rw [<- hj, hu] at hg
    cases hg
    have := (hfch (j / n) hq).2.2.1 (j % n) _ (List.getElem?_eq_getElem (by omega))
    rw [<- hj] at this
    exact this)
   (fun u hu => by obtain ⟨j, hj, rfl⟩ := hmem u hu; exact ⟨(hfch j hj).1, (hfch j hj).2.1⟩) (fun k h1 h2 => by
    simp only [List.getElem_map, List.getElem_range]
    exact (hfch k h2).2.2.2) hlen hm
  have hrun : (execOp a.eval { dst := dst, op := .call { callee := .builtin .append, args := #[s, y], argTypes := #[t, t] }, type := ty, pos := ps, after := af, guard := none }).run P w = .ok (.value v') w' := by
   unfold execOp
   simp only [resolve, invoke, builtin, List.map_toArray, List.map_cons, List.map_nil, hse, hv, Sem.run_bind, Sem.run_pure, Result.andThen_ok, hr]
  unfold Oper.wp
  rw [hrun]
  exact hk v' v' w' r1 (fun d u hd => ZI (o := ZS v e n R xs) (o' := ZS v' e n R (xs ++ ys)) r2 r3 hd) rfl⟩
theorem ZBg {Q : Z1} {c : Code} {t b n : Nat} {T : TypeId} {agg : Bool} (hp0 : fr[t]? = some (dX (.pointer (some ⟨b, 0, none⟩)))) (h : WC P Q c (fr.set t (dP n agg d)) hp) : WC P Q c fr (ZO b T n agg d :: hp) := by
 refine WC.of fun P0 B w0 w a hh hf => ?_
 obtain ⟨cs, u, c1, c2, c0, c3, c4, c5⟩ := hh.ok (ZO b T n agg d) (by simp)
 have hown := hh.own (ZO b T n agg d) (by simp) b rfl
 refine h.on hh.drop ⟨hf.defers, by rw [hf.size, List.length_set], fun t' d' hd' => ?_⟩
 by_cases htt : t = t'
 ·subst htt
  rw [List.getElem?_set] at hd'
  simp only [if_true] at hd'
  split at hd'
  ·cases hd'
   have hv : a.tmps.getD t undef = .pointer (some ⟨b, 0, none⟩) := hf.rd t _ hp0
   rw [hv]
   refine ⟨b, 0, u, rfl, ZAF c1 c2 c0 c3 c4 ⟨.inr hown.1, fun o' ho' hk => ?_⟩, d.weak c5 Imm.sub⟩
   exact (List.pairwise_cons.1 hh.apart).1 o' ho' b rfl hk
  ·cases hd'
 ·rw [List.getElem?_set_ne htt] at hd'
  exact d'.weak (hf.rd t' d' hd') Imm.sub
end
end
end Go.Proofs.YtmcllakdbgnfiaaGreatDoor
