/- Part 19: walks by contracts, and plain laws. -/
import Derived.Test.YtpiidgcljlalmaaVa18
set_option linter.unusedVariables false
set_option linter.unusedSimpArgs false
set_option linter.unusedSectionVars false
namespace Go.Proofs.Ytpiidgcljlalmaa.D
open Go.RowKit
def addD (ds : List Deferred) (a : Act) : Act := { a with defers := a.defers ++ ds }
def Qd (ds : List Deferred) (Q : Exit → Act → World → Prop) : Exit → Act → World → Prop := fun e x w => ∃ y, x = addD ds y ∧ Q e y w
section
variable {P : Program} {ds : List Deferred} {a : Act} {w : World} {Q : Exit → Act → World → Prop} {ops : Array Oper}
theorem eval_addD : (addD ds a).eval = a.eval := by funext o; cases o <;> rfl
theorem put_addD (x : Option Tmp) (v : Value) : (addD ds a).put x v = addD ds (a.put x v) := by cases x <;> rfl
theorem lets_addD (h : LetsOut Q) : LetsOut (Qd ds Q) := let ⟨a, w, h⟩ := h; ⟨addD ds a, w, a, rfl, h⟩
theorem oper_addD {o : Oper} {K K' : Act → World → Prop} (hk : ∀ a w, K a w → K' (addD ds a) w) (h : o.wp P a w K Q) : o.wp P (addD ds a) w K' (Qd ds Q) := by
  unfold Oper.wp at *
  rw [eval_addD]
  generalize (execOp a.eval o).run P w = r at *
  cases r with
  | ok n w' =>
    cases n <;> simp only [Oper.upon] at h ⊢
    case value v => rw [put_addD]; exact hk _ _ h
    case skip => rw [put_addD]; exact hk _ _ h
    case defer d =>
      have : ({ addD ds a with defers := d :: (addD ds a).defers } : Act).put o.dst undef = addD ds (({ a with defers := d :: a.defers } : Act).put o.dst undef) := by cases o.dst <;> rfl
      rw [this]; exact hk _ _ h
    case enter f args =>
      refine Calls.mono h fun e w'' he => ?_
      cases e with
      | returned v => show K' ((addD ds a).put o.dst v) w''; rw [put_addD]; exact hk _ _ he
      | panicked c => exact ⟨a, rfl, he⟩
      | outgrown => exact lets_addD he
    case row r args =>
      exact Go.Rows.mono h fun v w'' he => by show K' ((addD ds a).put o.dst v) w''; rw [put_addD]; exact hk _ _ he
    all_goals exact h
  | halt x w' =>
    cases x <;> simp only [Oper.upon] at h ⊢ <;> first | exact h | exact ⟨a, rfl, h⟩
theorem wpOp_addD {i : Nat} {K K' : Act → World → Prop} (hk : ∀ a w, K a w → K' (addD ds a) w) (h : wpOp P ops Q i K a w) : wpOp P ops (Qd ds Q) i K' (addD ds a) w := by
  unfold wpOp at *
  split
  · exact hk _ _ (by simpa [*] using h)
  · rename_i o ho
    simp only [ho] at h
    have e : (addD ds a).tmps = a.tmps := rfl
    rw [e]
    split
    · rename_i hw; simp only [hw, if_true] at h; exact h.imp (oper_addD hk) fun ⟨h1, h2⟩ => ⟨by unfold Oper.asks at *; rw [eval_addD]; exact h1, lets_addD h2⟩
    · rename_i hw; simp only [hw] at h; rw [put_addD]; exact hk _ _ h
theorem wpAny_addD {md : Region.Mode} : ∀ (n : Nat) (listed : Array Bool) (a : Act) (w : World), wpAny P md ops Q n listed a w → wpAny P md ops (Qd ds Q) n listed (addD ds a) w
  | 0, _, a, _, h => ⟨h.1, a, rfl, h.2⟩
  | n + 1, _, a, _, h => ⟨fun h0 => ⟨a, rfl, h.1 h0⟩, fun i hi => wpOp_addD (fun a w k => wpAny_addD n _ a w k) (h.2 i hi)⟩
theorem wpList_addD : ∀ (l : List Oper) (a : Act) (w : World), wpList P ops Q l a w → wpList P ops (Qd ds Q) l (addD ds a) w
  | [], a, _, h => ⟨a, rfl, h⟩
  | o :: l, a, w, h => by
    unfold wpList at *
    have e : (addD ds a).tmps = a.tmps := rfl
    rw [e]
    split
    · rename_i hw; rw [if_pos hw] at h; exact h.imp (oper_addD fun a w k => wpList_addD l a w k) fun ⟨h1, h2⟩ => ⟨by unfold Oper.asks at *; rw [eval_addD]; exact h1, lets_addD h2⟩
    · rename_i hw; rw [if_neg hw] at h; rw [put_addD]; exact wpList_addD l _ _ h
end
structure WC (ds : List Deferred) (P : Program) (Q : Post) (c : Code) (fr : List Dat) (hp : List HObj) : Prop where
  of ::
  out : ∀ (P0 : Nat → Prop) (B : Nat) (w0 w : World) (a : Act), Hp P0 B w0 hp w → Fr (Imm P0 B hp) w a fr → c.wp P (Qd ds (lift Q P0 B w0)) (addD ds a) w
section
variable {ds : List Deferred} {P : Program} {ops : Array Oper} {hp : List HObj} {o : Oper} {fr fr' : List Dat} {d : Dat} {Q : Post} {rest : List Oper}
theorem WC.on {c : Code} (h : WC ds P Q c fr hp) {P0 : Nat → Prop} {B : Nat} {w0 w : World} {a : Act} (hh : Hp P0 B w0 hp w) (hf : Fr (Imm P0 B hp) w a fr) : c.wp P (Qd ds (lift Q P0 B w0)) (addD ds a) w := h.out _ _ _ _ _ hh hf
theorem WC.region {id : Nat} {l : List Oper} (h : WL P l.toArray Q l fr hp) : WC ds P Q (.region id l.toArray false) fr hp := WC.of fun _ _ _ _ _ hh hf => wp_region_lit (wpList_addD _ _ _ (h.on hh hf))
theorem WC.draw {id : Nat} {l : List Oper} (hm : P.follows .mixedOrders = true) (hB : Region.lexB .any l.toArray = true) (h : WD P l.toArray hp (fun f => Q .normal f hp) l fr) : WC ds P Q (.region id l.toArray true) fr hp := by
  refine WC.of fun P0 B w0 w a hh hf => ?_
  simp only [Region.lexB, Bool.and_eq_true] at hB
  have hx : Ext w { w with drawn := w.drawn + 1 } := (Ext.refl w).drew
  refine wp_region_any hm (wpAny_addD _ _ _ _ (wpAny_of_D (Q := fun f => Q .normal f hp) _ _ fr _ _ (hh.ext hx) (hf.ext hx) (fun fr' a' w' e hf' hq => ⟨fr', hp, hq, (hh.ext hx).ext e, hf'⟩) ?_))
  have := wpAnyD_lex (md := .any) l 0 (Array.replicate l.toArray.size false) fr (by simp) (by simpa using hB.2) h
  simpa using this
theorem WC.drawM {id : Nat} {l : List Oper} {Q : Post} (C : List HObj → Prop) (n m : Nat) (ord : List (Nat × Bool)) (S : List Bool) (hm : P.follows .mixedOrders = true)
    (hB : (decide (n < l.toArray.size) && Region.sinkB .any l.toArray n && chainB2 .any l.toArray n && ordB .any l.toArray n ord (Array.replicate l.toArray.size false)) = true) (hS : ord.foldl (fun s p => s.setIfInBounds p.1 true) (Array.replicate l.toArray.size false) = S.toArray) (hlen : l.length = ord.length + m) (hC : C hp)
    (h : WM P l.toArray C (fun f p => WA P l.toArray Q m S f p) ord fr hp) : WC ds P Q (.region id l.toArray true) fr hp := by
  refine WC.of fun P0 B w0 w a hh hf => ?_
  simp only [Bool.and_eq_true, decide_eq_true_eq] at hB
  obtain ⟨⟨⟨hn, hs⟩, hc⟩, hord⟩ := hB
  have inv0 : HeadInv .any l.toArray n (Array.replicate l.toArray.size false) :=
    ⟨by simp, fun j oj _ hl => (by rw [getD_replicate_false] at hl; cases hl), fun t _ ht => getD_in (by simpa using ht) (getD_replicate_false _ _)⟩
  have HW := wpAnyM_ord hs hc hn ord _ fr hp inv0 hord h
  have hx : Ext w { w with drawn := w.drawn + 1 } := (Ext.refl w).drew
  refine wp_region_any hm (wpAny_addD _ _ _ _ ?_)
  have := wpAny_of_headM (Q' := lift Q P0 B w0) (g := m) _ _ _ hp _ _ hC (hh.ext hx) (hf.ext hx) (fun listed' fr' hp' a' w' hh' hf' hL => by
    rw [hL.2.1, hS]
    exact hL.2.2.out _ _ _ _ _ hh' hf') HW
  rw [show l.toArray.size = ord.length + m by simpa using hlen]
  rw [show (l.toArray.size) = ord.length + m by simpa using hlen] at this
  exact this
theorem WC.mono {Q' : Post} {c : Code} (h : WC ds P Q c fr hp) (k : ∀ e f p, Q e f p → Q' e f p) : WC ds P Q' c fr hp := WC.of fun _ _ _ _ _ hh hf => Code.wp_mono (fun _ _ _ ⟨y, hy, f, p, q, r⟩ => ⟨y, hy, f, p, k _ _ _ q, r⟩) (h.on hh hf)
theorem WC.seq {x y : Code} (h : WC ds P (ThenD (WC ds P Q y) Q) x fr hp) : WC ds P Q (.seq x y) fr hp := WC.of fun P0 B w0 w a hh hf => wp_seq (Code.wp_mono (fun e a' w' ⟨z, hz, f, p, q, r, s⟩ => by
  cases e with
  | normal => rw [hz]; exact (q : WC ds P Q y f p).on r s
  | _ => exact ⟨z, hz, f, p, q, r, s⟩) (h.on hh hf))
theorem WC.skip (h : Q .normal fr hp) : WC ds P Q .skip fr hp := WC.of fun _ _ _ _ a hh hf => wp_skip ⟨a, rfl, fr, hp, h, hh, hf⟩
theorem WC.ret (h : Q .ret fr hp) : WC ds P Q .ret fr hp := WC.of fun _ _ _ _ a hh hf => wp_ret ⟨a, rfl, fr, hp, h, hh, hf⟩
theorem WC.exit {id : Nat} (h : Q (.exit id) fr hp) : WC ds P Q (.exit id) fr hp := WC.of fun _ _ _ _ a hh hf => wp_exit ⟨a, rfl, fr, hp, h, hh, hf⟩
theorem WC.label {id : Nat} (h : Q .normal fr hp) : WC ds P Q (.label id) fr hp := WC.of fun _ _ _ _ a hh hf => wp_label ⟨a, rfl, fr, hp, h, hh, hf⟩
theorem WC.block {id : Nat} {c : Code} (h : WC ds P (InBlockD id Q) c fr hp) : WC ds P Q (.block id c) fr hp := WC.of fun P0 B w0 w a hh hf => wp_block (Code.wp_mono (fun e a' w' ⟨z, hz, f, p, q, r, s⟩ => by
  cases e with
  | exit id' =>
    simp only [Exit.inBlock]
    simp only [InBlockD] at q
    split
    · rename_i hi; rw [if_pos hi] at q; exact ⟨z, hz, f, p, q, r, s⟩
    · rename_i hi; rw [if_neg hi] at q; exact ⟨z, hz, f, p, q, r, s⟩
  | _ => exact ⟨z, hz, f, p, q, r, s⟩) (h.on hh hf))
theorem WC.cond {c : Operand} {x y : Code} {b : Bool} (hc : OpD fr c (dB b)) (ht : b = true → WC ds P Q x fr hp) (hf : b = false → WC ds P Q y fr hp) : WC ds P Q (.cond c x y) fr hp := WC.of fun _ _ _ _ a hh hfr =>
  wp_cond_split (t := b) (by rw [eval_addD]; exact hc.ev hfr) (fun h => (ht h).on hh hfr) (fun h => (hf h).on hh hfr)
theorem WC.weak {c : Code} (h : WC ds P Q c fr' hp) (hl : fr.length = fr'.length) (k : ∀ (t : Nat) (d : Dat), fr'[t]? = some d → ∃ d0 : Dat, fr[t]? = some d0 ∧ d0.le d) : WC ds P Q c fr hp := WC.of fun _ _ _ _ _ hh hf => h.on hh (hf.weak hl k)
theorem WC.weakF {c : Code} {f' : List Dat} (h : LeF fr f') (k : WC ds P Q c f' hp) : WC ds P Q c fr hp := k.weak h.out.1 h.out.2
theorem WC.id {c : Code} (h : WC ds P Q c fr hp) : WC ds P Q c fr hp := h
theorem WC.only (id : Nat) {l : Array Oper} {b : Bool} (h : WC ds P Q (.region id l b) fr hp) : WC ds P Q (.region id l b) fr hp := h
theorem WC.seqK {x y : Code} (h : ∀ K : List Dat → List HObj → Prop, (∀ f p, WC ds P Q y f p → Kont K f p) → WC ds P (ThenD (Kont K) Q) x fr hp) : WC ds P Q (.seq x y) fr hp :=
  WC.seq ((h (WC ds P Q y) fun _ _ h => ⟨h⟩).mono fun e f p q => by
    cases e with
    | normal => exact (q : Kont _ f p).out
    | _ => exact q)
section
variable {c : Operand} {x y : Code} {p : Prop} {_ip : Decidable p} {b : Bool}
theorem WC.condT (hc : OpD fr c (dB b)) (hb : b = true) (h : WC ds P Q x fr hp) : WC ds P Q (.cond c x y) fr hp := WC.cond hc (fun _ => h) (fun h => by rw [hb] at h; cases h)
theorem WC.condF (hc : OpD fr c (dB b)) (hb : b = false) (h : WC ds P Q y fr hp) : WC ds P Q (.cond c x y) fr hp := WC.cond hc (fun h => by rw [hb] at h; cases h) (fun _ => h)
theorem WC.condD (hc : OpD fr c (dB (decide p))) (ht : p → WC ds P Q x fr hp) (hf : ¬ p → WC ds P Q y fr hp) : WC ds P Q (.cond c x y) fr hp := WC.cond hc (fun h => ht (of_decide_eq_true h)) (fun h => hf (of_decide_eq_false h))
theorem WC.condN (hc : OpD fr c (dB (!decide p))) (ht : ¬ p → WC ds P Q x fr hp) (hf : p → WC ds P Q y fr hp) : WC ds P Q (.cond c x y) fr hp := WC.cond hc (fun h => ht (by simpa using h)) (fun h => hf (by simpa using h))
theorem WC.condNB (hc : OpD fr c (dB (!b))) (ht : b = false → WC ds P Q x fr hp) (hf : b = true → WC ds P Q y fr hp) : WC ds P Q (.cond c x y) fr hp := WC.cond hc (fun h => ht (by simpa using h)) (fun h => hf (by simpa using h))
end
theorem WC.loop {X : Type} {c : Code} (F : X → List Dat) (H : X → List HObj) (μ : X → Nat) (p : X → Prop) (x0 : X) (h0 : p x0) (hF : fr.length = (F x0).length ∧ ∀ (t : Nat) (d : Dat), (F x0)[t]? = some d → ∃ d0 : Dat, fr[t]? = some d0 ∧ d0.le d) (hH : hp = H x0)
    (round : ∀ x, p x → WC ds P (ThenD (fun f q => ∃ x', p x' ∧ μ x' < μ x ∧ q = H x' ∧ f.length = (F x').length ∧ ∀ (t : Nat) (d : Dat), (F x')[t]? = some d → ∃ d0 : Dat, f[t]? = some d0 ∧ d0.le d) Q) c (F x) (H x)) : WC ds P Q (.loop c) fr hp := by
  refine WC.of fun P0 B w0 w a hh hf => ?_
  have hf1 := hf.weak hF.1 hF.2
  subst hH
  intro b k cs
  have key : ∀ (n : Nat) (x : X) (a' : Act) (w' : World), μ x = n → p x → Hp P0 B w0 (H x) w' → Fr (Imm P0 B (H x)) w' a' (F x) →
      ∃ e a2 w2, Qd ds (lift Q P0 B w0) e a2 w2 ∧ Arrives P (lone (b.at (addD ds a') (.code c :: .inLoop c :: k)) cs w') b k cs e a2 w2 := by
    intro n
    induction n using Nat.strongRecOn with
    | _ n ih =>
      intro x a' w' hn hp' hh' hf'
      obtain ⟨e, a1, w1, hq, harr⟩ := (round x hp').on hh' hf' b (.inLoop c :: k) cs
      obtain ⟨z, rfl, hq⟩ := hq
      cases e with
      | normal =>
        obtain ⟨f, q, hq, h1, h2⟩ := hq
        obtain ⟨x', px, hlt, rfl, hl, hle⟩ := (hq : ∃ x', _)
        obtain ⟨e2, a2, w2, hq2, harr2⟩ := ih (μ x') (hn ▸ hlt) x' z w1 rfl px h1 (h2.weak hl hle)
        exact ⟨e2, a2, w2, hq2, .of_steps (Steps.trans harr (.one step_inLoop)) harr2⟩
      | exit id => exact ⟨_, _, w1, ⟨z, rfl, hq⟩, .pass (x := .inLoop c) rfl (fun _ _ => .inl (by simp)) harr⟩
      | goto l => exact ⟨_, _, w1, ⟨z, rfl, hq⟩, .pass (x := .inLoop c) rfl (fun _ _ => .inl (by simp)) harr⟩
      | ret => exact ⟨_, _, w1, ⟨z, rfl, hq⟩, .pass (x := .inLoop c) rfl (fun _ _ => .inl (by simp)) harr⟩
      | panic ch => exact ⟨_, _, w1, ⟨z, rfl, hq⟩, .pass (x := .inLoop c) rfl (fun _ _ => .inl (by simp)) harr⟩
      | outgrown => exact ⟨_, _, w1, ⟨z, rfl, hq⟩, .pass (x := .inLoop c) rfl (fun _ _ => .inl (by simp)) harr⟩
  obtain ⟨e, a', w', hq, harr⟩ := key _ x0 a w rfl h0 hh hf1
  exact ⟨e, a', w', hq, .of_steps (.one step_loop) harr⟩
theorem WC.loopU {X : Type} {c : Code} (ups : X → List (Nat × Dat)) (H : X → List HObj) (μ : X → Nat) (p : X → Prop) (x0 : X) (h0 : p x0) (hF : LeF fr (upds fr (ups x0))) (hH : hp = H x0)
    (round : ∀ x, p x → WC ds P (ThenD (fun f q => ∃ x', p x' ∧ μ x' < μ x ∧ q = H x' ∧ LeF f (upds fr (ups x'))) Q) c (upds fr (ups x)) (H x)) : WC ds P Q (.loop c) fr hp :=
  WC.loop (fun x => upds fr (ups x)) H μ p x0 h0 hF.out hH fun x hx => (round x hx).mono fun e f q h => by
    cases e with
    | normal => obtain ⟨x', h1, h2, h3, h4⟩ := (h : ∃ x', _); exact ⟨x', h1, h2, h3, h4.out.1, h4.out.2⟩
    | _ => exact h
theorem WC.perm {c : Code} {hp' : List HObj} (hp1 : hp.Perm hp') (h : WC ds P Q c fr hp') : WC ds P Q c fr hp := WC.of fun _ _ _ _ _ hh hf =>
  let ⟨h1, h2⟩ := hh.perm hp1
  h.on h1 (hf.mono fun d _ hd => d.weak hd fun k hk => (h2 k).1 hk)
theorem WC.drop {c : Code} {o : HObj} (h : WC ds P Q c fr hp) : WC ds P Q c fr (o :: hp) := WC.of fun _ _ _ _ _ hh hf => h.on hh.drop (hf.mono fun d _ hd => d.weak hd Imm.sub)
theorem WC.nilRow {c : Code} {α : Type} (e : TypeId) (R : Rel α) [Good R] (h : WC ds P Q c fr (hRow (.slice none 0 0) e R ([] : List α) :: hp)) : WC ds P Q c fr hp := WC.of fun _ _ _ _ _ hh hf =>
  h.on (hh.push (Ext.refl _) (by simp [hRow, Value.ownBlock]) Own.nil) (hf.mono fun _ _ hd => Hp.pushed (Ext.refl _) (by simp [hRow, Value.ownBlock]) hd)
theorem WC.rowIs {c : Code} {α : Type} {R : Rel α} {_gR : Good R} {v : Value} {e : TypeId} {xs : List α} (hm : hRow v e R xs ∈ hp) (h : v.oneCell' = true → WC ds P Q c fr hp) : WC ds P Q c fr hp := WC.of fun _ _ _ _ _ hh hf => (h (row_is (hh.ok _ hm))).on hh hf
end
theorem WC.keep1 {ds : List Deferred} {P : Program} {hp : List HObj} {fr : List Dat} {Q : Post} {e : TypeId} {c : Code} {α : Type} {R : Rel α} {_gR : Good R} {v : Value} {xs : List α} {s : Tmp} (hs : fr[s]? = some (dX v)) (h : WC ds P Q c (fr.set s (dS (Arr R) xs)) hp) : WC ds P Q c fr (hRow v e R xs :: hp) := WC.of fun _ _ _ _ _ hh hf => h.on hh.drop (keep_slot hf hs (d := dS (Arr R) xs) (Own.keep hh))
theorem WC.joinR {ds : List Deferred} {P : Program} {hp : List HObj} {fr : List Dat} {Q : Post} {x y : Code} {l : Array Oper} {b : Bool} (id : Nat) (ups : List (Nat × Dat)) (H : List HObj) (h1 : Halt (WC ds P (ThenD (fun f q => q = H ∧ LeF f (upds fr ups)) Q) (.seq (.region id l b) x) fr hp)) (h2 : Halt (WC ds P Q y (upds fr ups) H)) : WC ds P Q (.seq (.seq (.region id l b) x) y) fr hp :=
  WC.seq (h1.go.mono fun e f q h => by
    cases e with
    | normal =>
      obtain ⟨rfl, hl⟩ := (h : q = H ∧ LeF f (upds fr ups))
      exact WC.weakF hl h2.go
    | _ => exact h)
theorem WC.scope {ds : List Deferred} {P : Program} {Q : Post} {c : Code} {fr : List Dat} {hp : List HObj} (h : WC ds P Q c fr hp) (hq : ∀ l f p, ¬ Q (.goto l) f p) : WC ds P Q (.scope c) fr hp := WC.of fun _ _ _ _ _ hh hf =>
  wp_scope_straight (Code.wp_mono (fun e a w ⟨y, hy, f, p, q, r⟩ => by
    cases e with
    | goto l => exact absurd q (hq l f p)
    | _ => exact ⟨y, hy, f, p, q, r⟩) (h.on hh hf))
end Go.Proofs.Ytpiidgcljlalmaa.D
namespace Go.Proofs.Ytpiidgcljlalmaa
open Go.RowKit
theorem wpList_monoQ {P : Program} {ops : Array Oper} {Q Q' : Exit → Act → World → Prop} (hq : ∀ e a w, Q e a w → Q' e a w) : ∀ (l : List Oper) (a : Act) (w : World), wpList P ops Q l a w → wpList P ops Q' l a w
  | [], a, w, h => hq _ _ _ h
  | o :: l, a, w, h => by
    unfold wpList at *
    split
    · rename_i hw; rw [if_pos hw] at h
      refine h.imp (fun h => ?_) fun ⟨h1, a', w', h2⟩ => ⟨h1, a', w', hq _ _ _ h2⟩
      unfold Oper.wp at *
      generalize (execOp a.eval o).run P w = r at *
      cases r with
      | ok n w' =>
        cases n <;> simp only [Oper.upon] at h ⊢
        case value v => exact wpList_monoQ hq l _ _ h
        case skip => exact wpList_monoQ hq l _ _ h
        case defer d => exact wpList_monoQ hq l _ _ h
        case enter f args =>
          refine Calls.mono h fun e w'' he => ?_
          cases e with
          | returned v => exact wpList_monoQ hq l _ _ he
          | panicked c => exact hq _ _ _ he
          | outgrown => exact let ⟨a', w', h2⟩ := he; ⟨a', w', hq _ _ _ h2⟩
        case row r args => exact Go.Rows.mono h fun v w'' he => wpList_monoQ hq l _ _ he
        all_goals exact h
      | halt x w' => cases x <;> simp only [Oper.upon] at h ⊢ <;> first | exact h | exact hq _ _ _ h
    · rename_i hw; rw [if_neg hw] at h; exact wpList_monoQ hq l _ _ h
def finDf (t u : Nat) (K : Value → Value → List HObj → List HObj → Prop) (hp : List HObj) : Post := fun e f q => (match e with | .normal | .ret => True | _ => False) ∧ ∃ v v' hpc hp2, f[t]? = some (dX v) ∧ f[u]? = some (dX v') ∧ q = hpc ++ (hp2 ++ hp) ∧ K v v' hpc hp2
theorem CallC.introD {P : Program} {f g : FuncId} {fn gn : Func} {gc c1 : Code} {t u t1 id0 id1 : Nat} {l0 : List Oper} {o1 : Oper} {vz vp : Value} {ats : Array TypeId} {ty : TypeId} {ps : String} {af : Array Edge} {ds F0 : List Dat} {hp1 : List HObj} {K : Value → Value → List HObj → List HObj → Prop} {K2 : Value → Value → List HObj → List HObj → Prop}
    (hf : P.funcs[f]? = some fn) (hb : fn.body = some (.seq (.region id0 l0.toArray false) (.scope (.seq (.region id1 [o1, { dst := none, op := .defer { callee := .value (.func g), args := #[.tmp t1, .const vz], argTypes := ats }, type := ty, pos := ps, after := af, guard := none }].toArray false) c1))))
    (hr : fn.results = #[.tmp t, .tmp u]) (hg : P.funcs[g]? = some gn) (hgb : gn.body = some gc) (hgr : gn.results = #[]) (he : Enters P g)
    (h0 : ∀ hp, WL P l0.toArray (fun e f q => e = .normal ∧ f = F0 ∧ q = hp1 ++ hp) l0 (ds ++ List.replicate (fn.ntmps - ds.length) (dX undef)) (hp1 ++ hp))
    (ho : o1.guard = none) (hd1 : o1.dst = some t1) (ht1 : t1 < F0.length) (h1 : ∀ hp, SY P [o1, { dst := none, op := .defer { callee := .value (.func g), args := #[.tmp t1, .const vz], argTypes := ats }, type := ty, pos := ps, after := af, guard := none }].toArray (hp1 ++ hp) o1 F0 (dX vp))
    (hw : ∀ hp, D.WC [{ target := .fn (.func g) #[], args := #[vp, vz] }] P (finDf t u K hp) c1 (F0.set t1 (dX vp)) (hp1 ++ hp))
    (hback : ∀ v v' hpc hp2, K v v' hpc hp2 → ∀ hp, WC P (finC0 (fun _ q => K2 v v' q hp2) hp) gc ([dX vp, dX vz] ++ List.replicate (gn.ntmps - 2) (dX undef)) (hpc ++ hp)) :
    CallC P f ds hp1 (fun d hp => ∃ v v' q hp2, d = dT [dX v, dX v'] ∧ hp = q ++ hp2 ∧ K2 v v' q hp2) := ⟨fun P0 B w0 hp vs W hh hl hv => by
  refine calls_of_wp_defers hf hb ?_
  have hf0 := fr_enter (m := fn.ntmps - ds.length) hl hv
  have hsz : vs.toArray.size = ds.length := by simp [hl]
  rw [hsz]
  refine wp_seq (wp_region_lit ?_)
  have H0 := (h0 hp).on hh hf0
  generalize hA : ({ tmps := vs.toArray ++ Array.replicate (fn.ntmps - ds.length) undef, defers := [] } : Act) = a0 at H0
  refine wpList_monoQ ?_ l0 _ _ H0
  rintro e a w ⟨f1, p1, ⟨rfl, hfe, rfl⟩, hh1, hf1⟩
  rw [hfe] at hf1
  show Code.wp P _ _ a w
  refine wp_scope_straight (wp_seq (wp_region_lit ?_))
  unfold wpList
  have hwant : Region.wanted o1 (yielded [o1, { dst := none, op := .defer { callee := .value (.func g), args := #[.tmp t1, .const vz], argTypes := ats }, type := ty, pos := ps, after := af, guard := none }].toArray a.tmps) = true := by simp [Region.wanted, ho]
  rw [if_pos hwant]
  refine .inl ((h1 hp).out hh1 (hf1.on _) _ _ fun v w' hx hd => ?_)
  have hf2 : Fr (Imm P0 B (hp1 ++ hp)) w' (a.put o1.dst v) (F0.set t1 (dX vp)) := by
    have := Fr.put (x := o1.dst) (hf1.ext hx) hd
    rw [hd1] at this ⊢
    exact this
  have hh2 := hh1.ext hx
  generalize a.put o1.dst v = a2 at hf2
  unfold wpList
  rw [if_pos (by simp [Region.wanted])]
  refine .inl ?_
  have hev : a2.eval (.tmp t1) = vp := hf2.rd t1 (dX vp) (by rw [List.getElem?_set]; simp [ht1])
  unfold Oper.wp
  have hrun : (execOp a2.eval { dst := none, op := .defer { callee := .value (.func g), args := #[.tmp t1, .const vz], argTypes := ats }, type := ty, pos := ps, after := af, guard := none }).run P w' = .ok (.defer { target := .fn (.func g) #[], args := #[vp, vz] }) w' := by
    unfold execOp
    simp only [resolve]
    have e1 : a2.eval (.const vz) = vz := rfl
    have e2 : a2.eval (.func g) = .func (.func g) #[] #[] := rfl
    simp [hev, e1, e2, Deferred.ofValue]
  rw [hrun]
  simp only [Oper.upon, wpList, Exit.noGoto, Exit.then]
  have hadd : ({ a2 with defers := { target := .fn (.func g) #[], args := #[vp, vz] } :: a2.defers } : Act).put none undef = D.addD [{ target := .fn (.func g) #[], args := #[vp, vz] }] a2 := by
    have := hf2.defers
    cases a2
    simp only at this
    subst this
    rfl
  rw [hadd]
  refine Code.wp_mono ?_ ((hw hp).on hh2 hf2)
  rintro e a3 w3 ⟨y, rfl, f3, p3, ⟨hx3, v3, v3', hpc, hp2, hv3, hv3', rfl, hk⟩, hh3, hf3⟩
  have hv := hf3.rd t _ hv3
  have hv' := hf3.rd u _ hv3'
  have hL : Leaves P fn (D.addD [{ target := .fn (.func g) #[], args := #[vp, vz] }] y).tmps (fun e W' => ∃ v d hp2, e = .returned v ∧ (∃ v v' q hp3, d = dT [dX v, dX v'] ∧ hp2 = q ++ hp3 ∧ K2 v v' q hp3) ∧ Hp P0 B w0 (hp2 ++ hp) W' ∧ d.rd (Imm P0 B (hp2 ++ hp)) W' v) (D.addD [{ target := .fn (.func g) #[], args := #[vp, vz] }] y).defers .returning w3 := by
    have e1 : (D.addD [{ target := .fn (.func g) #[], args := #[vp, vz] }] y).defers = [{ target := .fn (.func g) #[], args := #[vp, vz] }] := by
      show y.defers ++ _ = _
      rw [hf3.defers]; rfl
    rw [e1]
    refine leaves_cons (f := g) (args := #[vp, vz]) (by simp) (by simp [invoke, he _ w3]) ?_
    have hwb : gc.wp P (bodyPost P gn fun e W' => ∃ q, (∃ u, e = .returned u) ∧ K2 v3 v3' q hp2 ∧ Hp P0 B w0 (q ++ (hp2 ++ hp)) W') { tmps := #[vp, vz] ++ Array.replicate (gn.ntmps - 2) undef, defers := [] } w3 := by
      have hfb := fr_enter (I := Imm P0 B (hpc ++ (hp2 ++ hp))) (w := w3) (vs := [vp, vz]) (args := [dX vp, dX vz]) (m := gn.ntmps - 2) rfl (fun i d hd => by
        match i, hd with
        | 0, hd => cases hd; rfl
        | 1, hd => cases hd; rfl)
      refine Code.wp_mono (fun e a' w' ⟨f', p', q, hh', hf'⟩ => ?_) ((hback _ _ _ _ hk (hp2 ++ hp)).on hh3 hfb)
      obtain ⟨hx, q2, rfl, hk2⟩ := q
      cases e with
      | normal => exact ⟨hf'.defers, _, results_none hgr _ _ _, q2, ⟨_, rfl⟩, hk2, hh'⟩
      | ret => exact ⟨hf'.defers, _, results_none hgr _ _ _, q2, ⟨_, rfl⟩, hk2, hh'⟩
      | _ => exact hx.elim
    refine CallsD.mono (callsD_of_wp (u := .returning) hg hgb hwb) fun e u' W' ⟨hu, q, ⟨u1, hu1⟩, hk2, hh'⟩ => ?_
    subst hu1
    subst hu
    show ∃ v, _
    refine ⟨.tuple #[v3, v3'], ?_, .tuple #[v3, v3'], dT [dX v3, dX v3'], q ++ hp2, rfl, ⟨v3, v3', q, hp2, rfl, rfl, hk2⟩, by rw [List.append_assoc]; exact hh', ⟨[v3, v3'], rfl, rfl, fun i e x he hx => by
      match i, he, hx with
      | 0, he, hx => cases he; cases hx; rfl
      | 1, he, hx => cases he; cases hx; rfl⟩⟩
    have := results_tmp2 (P := P) hr (D.addD [{ target := .fn (.func g) #[], args := #[vp, vz] }] y).tmps W'
    rw [show (D.addD [{ target := .fn (.func g) #[], args := #[vp, vz] }] y).tmps = y.tmps from rfl] at this ⊢
    rw [show y.tmps.getD t undef = v3 from hv, show y.tmps.getD u undef = v3' from hv'] at this
    exact this
  cases e with
  | normal => exact hL
  | ret => exact hL
  | _ => exact hx3.elim⟩
end Go.Proofs.Ytpiidgcljlalmaa
