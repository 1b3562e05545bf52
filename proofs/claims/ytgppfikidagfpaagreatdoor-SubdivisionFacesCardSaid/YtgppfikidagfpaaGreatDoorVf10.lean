/- Part 10: walks by contracts, and plain laws. -/
import Derived.Test.YtgppfikidagfpaaGreatDoorVf9
set_option linter.unusedVariables false
set_option linter.unusedSimpArgs false
set_option linter.unusedSectionVars false
namespace Go.Proofs.YtgppfikidagfpaaGreatDoor
open Go.RowKit
structure SW (P : Program) (ops : Array Oper) (hp : List HObj) {β : Type} (H : β → List HObj) (D : β → Dat) (o : Oper) (fr : List Dat) : Prop where
  guard : o.guard = none
  out : ∀ {P0 : Nat → Prop} {B : Nat} {w0 w : World} {a : Act}, Hp P0 B w0 hp w → On (o.looksAt ops) (Imm P0 B hp) w a fr → ∀ (K : Act → World → Prop) (Q : Exit → Act → World → Prop),
    (∀ (x : β) (v : Value) (w' : World), Hp P0 B w0 (H x) w' → (∀ (d : Dat) (u : Value), d.rd (Imm P0 B hp) w u → d.rd (Imm P0 B (H x)) w' u) → (D x).rd (Imm P0 B (H x)) w' v → K (a.put o.dst v) w') → o.wp P a w K Q
def HH {β : Type} (hp : List HObj) (H : β → List HObj) : Option β → List HObj
  | none => hp
  | some x => H x
theorem HH.mem {β : Type} {hp : List HObj} {H : β → List HObj} {c : Option β} {o : HObj} (h : o ∈ hp) (k : ∀ x, o ∈ H x) : o ∈ HH hp H c := by
  cases c with
  | none => exact h
  | some x => exact k x
section
variable {P : Program} {ops : Array Oper} {hp : List HObj} {md : Region.Mode} {β : Type} {H : β → List HObj} {D : β → Dat} {dd : Nat → Dat} {m : Nat} {fr fr' : List Dat} {o : Oper}
theorem SW.same (h : SW P ops hp H D o fr) (hl : fr'.length = fr.length) (hs : ∀ t ∈ o.looksAt ops, fr'[t]? = fr[t]?) : SW P ops hp H D o fr' := ⟨h.guard, fun hh ho K Q hk => h.out hh (ho.same hl hs) K Q hk⟩
def sOpW (P : Program) (ops : Array Oper) (hp : List HObj) {β : Type} (H : β → List HObj) (D : β → Dat) (dd : Nat → Dat) (m : Nat) (i : Nat) (K : List Dat → Option β → Prop) (fr : List Dat) (c : Option β) : Prop :=
  ∃ o, ops[i]? = some o ∧ ((i = m ∧ c = none ∧ SW P ops hp H D o fr ∧ ∀ x, K (setD fr o.dst (D x)) (some x)) ∨ (i ≠ m ∧ (∀ c, SYG P ops (HH hp H c) o fr (dd i)) ∧ K (setD fr o.dst (dd i)) c))
def wpAnyW (P : Program) (md : Region.Mode) (ops : Array Oper) (hp : List HObj) {β : Type} (H : β → List HObj) (D : β → Dat) (dd : Nat → Dat) (m n : Nat) (L : Array Bool → List Dat → Option β → Prop) : Nat → Array Bool → List Dat → Option β → Prop
  | 0, listed, fr, c => L listed fr c
  | f + 1, listed, fr, c =>
    Region.ready md ops listed ≠ [] ∧ ∀ i ∈ Region.ready md ops listed, i < n ∧ sOpW P ops hp H D dd m i (wpAnyW P md ops hp H D dd m n L f (listed.setIfInBounds i true)) fr c
theorem wpAny_of_headW {n g : Nat} {L : Array Bool → List Dat → Option β → Prop} {Q' : Exit → Act → World → Prop} {P0 : Nat → Prop} {B : Nat} {w0 : World} : ∀ (f : Nat) (listed : Array Bool) (fr : List Dat) (c : Option β) (a : Act) (w : World), Hp P0 B w0 (HH hp H c) w → Fr (Imm P0 B (HH hp H c)) w a fr →
    (∀ listed fr c a w', Hp P0 B w0 (HH hp H c) w' → Fr (Imm P0 B (HH hp H c)) w' a fr → L listed fr c → wpAny P md ops Q' g listed a w') → wpAnyW P md ops hp H D dd m n L f listed fr c → wpAny P md ops Q' (f + g) listed a w
  | 0, listed, fr, c, a, w, hh, hf, hL, h => by rw [Nat.zero_add]; exact hL _ _ _ _ _ hh hf h
  | f + 1, listed, fr, c, a, w, hh, hf, hL, h => by
    rw [show f + 1 + g = (f + g) + 1 by omega]
    refine ⟨fun h0 => absurd h0 h.1, fun i hi => ?_⟩
    obtain ⟨o, ho, h1⟩ := (h.2 i hi).2
    unfold wpOp
    simp only [ho]
    rcases h1 with ⟨hm, hc, hw, hk⟩ | ⟨hm, hs, hk⟩
    · subst hc
      have hwant : Region.wanted o (yielded ops a.tmps) = true := by simp [Region.wanted, hw.guard]
      rw [if_pos hwant]
      refine .inl (hw.out hh (hf.on _) _ _ fun x v w' hh' hrd hd => ?_)
      exact wpAny_of_headW f _ _ (some x) _ _ hh' (Fr.put (hf.mono fun d u hu => hrd d u hu) hd) hL (hk x)
    · have := (hs c).step (Q := Q') hh hf (K := wpAny P md ops Q' (f + g) (listed.setIfInBounds i true)) fun a' w' e hf' => wpAny_of_headW f _ _ c _ _ (hh.ext e) hf' hL hk
      split
      · rename_i hw; rw [if_pos hw] at this; exact .inl this
      · rename_i hw; rw [if_neg hw] at this; exact this
theorem wpAnyW_first {n i : Nat} {oi : Oper} {L : Array Bool → List Dat → Option β → Prop} (hi : ops[i]? = some oi) (him : i ≠ m)
    (hs : Region.sinkB md ops n = true) (hc : Region.chainB md ops n = true) (hn : n < ops.size) (hin : i < n)
    (hdone : ∀ listed a c, L listed a c → ∀ j ∈ Region.ready md ops listed, n ≤ j) :
    ∀ (f : Nat) (listed : Array Bool) (fr : List Dat) (c : Option β), HeadInv md ops n listed →
      (∀ j oj, ops[j]? = some oj → j ≠ i → listed.getD j true = false → (∀ e ∈ oj.after, Region.binds md e = true → e.on ≠ i) → oi.apart ops oj = true) →
      i ∈ Region.ready md ops listed → (∀ c, SYG P ops (HH hp H c) oi fr (dd i)) →
      wpAnyW P md ops hp H D dd m n L f (listed.setIfInBounds i true) (setD fr oi.dst (dd i)) c → wpAnyW P md ops hp H D dd m n L (f + 1) listed fr c := by
  intro f
  induction f with
  | zero =>
    intro listed fr c inv _ hr hy H
    have hun := (mem_ready.1 hr).1
    refine ⟨fun h => (by rw [h] at hr; cases hr), fun j hj => ?_⟩
    have hjn : j < n := by
      rcases Nat.lt_or_ge j n with h | h
      · exact h
      · exact absurd hj (tail_waits hs hc hn inv _ i rfl hin hun j h)
    refine ⟨hjn, ?_⟩
    by_cases hji : j = i
    · subst hji; exact ⟨oi, hi, .inr ⟨him, hy, H⟩⟩
    · have := hdone _ _ _ H j (ready_mono hj hji)
      omega
  | succ f ih =>
    intro listed fr c inv hfree hr hy H
    have hun := (mem_ready.1 hr).1
    refine ⟨fun h => (by rw [h] at hr; cases hr), fun j hj => ?_⟩
    have hjn : j < n := by
      rcases Nat.lt_or_ge j n with h | h
      · exact h
      · exact absurd hj (tail_waits hs hc hn inv _ i rfl hin hun j h)
    refine ⟨hjn, ?_⟩
    by_cases hji : j = i
    · subst hji; exact ⟨oi, hi, .inr ⟨him, hy, H⟩⟩
    · obtain ⟨oj', hoj', h1⟩ := (H.2 j (ready_mono hj hji)).2
      obtain ⟨hjun, oj, hoj, hall⟩ := mem_ready.1 hj
      have hoo : oj = oj' := by rw [hoj] at hoj'; simpa using hoj'
      subst hoo
      have hnot : ∀ e ∈ oj.after, Region.binds md e = true → e.on ≠ i := fun e he hb heq => by
        have h1 := hall e he hb
        rw [heq, getD_both hun] at h1
        cases h1
      obtain ⟨a1, a2, a3⟩ := Oper.apart_spec (hfree j oj hoj hji hjun hnot)
      have hfree' : ∀ k ok, ops[k]? = some ok → k ≠ i → (listed.setIfInBounds j true).getD k true = false →
          (∀ e ∈ ok.after, Region.binds md e = true → e.on ≠ i) → oi.apart ops ok = true := fun k ok hk hki hun hno => by
        refine hfree k ok hk hki ?_ hno
        by_cases hjk : j = k
        · subst hjk; exact hjun
        · rw [getD_set_ne true hjk] at hun; exact hun
      have key : ∀ (d : Dat) (c' : Option β), wpAnyW P md ops hp _ D dd m n L f ((listed.setIfInBounds i true).setIfInBounds j true) (setD (setD fr oi.dst (dd i)) oj.dst d) c' →
          wpAnyW P md ops hp _ D dd m n L (f + 1) (listed.setIfInBounds j true) (setD fr oj.dst d) c' := fun d c' hk => by
        refine ih (listed.setIfInBounds j true) (setD fr oj.dst d) c' (inv.set hj hjn) hfree' (ready_mono hr (Ne.symm hji)) (fun c => (hy c).same (setD_length _ _ _) fun t ht => setD_other fun e => a3 t e ht) ?_
        rw [Array.setIfInBounds_comm _ _ hji, ← setD_comm fr (dd i) d a2]
        exact hk
      refine ⟨oj, hoj, ?_⟩
      rcases h1 with ⟨hm, hcn, hw, hk⟩ | ⟨hm, hs', hk⟩
      · exact .inl ⟨hm, hcn, hw.same (setD_length _ _ _).symm fun t ht => (setD_other fun e => a1 t e ht).symm, fun x => key _ _ (hk x)⟩
      · exact .inr ⟨hm, fun c => (hs' c).same (setD_length _ _ _).symm fun t ht => (setD_other fun e => a1 t e ht).symm, key _ _ hk⟩
inductive WDs (P : Program) (ops : Array Oper) (hp : List HObj) {β : Type} (H : β → List HObj) (Q : List Dat → Prop) : List Oper → List Dat → Prop
  | nil {fr : List Dat} : Q fr → WDs P ops hp H Q [] fr
  | op {o : Oper} {rest : List Oper} {fr : List Dat} {d : Dat} : (∀ c, SYG P ops (HH hp H c) o fr d) → WDs P ops hp H Q rest (setD fr o.dst d) → WDs P ops hp H Q (o :: rest) fr
theorem WDs.id {Q : List Dat → Prop} {l : List Oper} {f : List Dat} (h : WDs P ops hp H Q l f) : WDs P ops hp H Q l f := h
def ChD (P : Program) (ops : Array Oper) (hp : List HObj) {β : Type} (H : β → List HObj) (dd : Nat → Dat) (Q : List Dat → Prop) : List Oper → Nat → List Dat → Prop
  | [], _, fr => Q fr
  | o :: rest, k, fr => (∀ c, SYG P ops (HH hp H c) o fr (dd k)) ∧ ChD P ops hp H dd Q rest (k + 1) (setD fr o.dst (dd k))
theorem ChD.congr {dd' : Nat → Dat} {Q : List Dat → Prop} : ∀ (l : List Oper) (k : Nat) (fr : List Dat), (∀ j, k ≤ j → dd j = dd' j) → ChD P ops hp H dd Q l k fr → ChD P ops hp H dd' Q l k fr
  | [], _, _, _, h => h
  | _ :: rest, k, _, he, h => by
    refine ⟨by rw [← he k (Nat.le_refl _)]; exact h.1, ?_⟩
    rw [← he k (Nat.le_refl _)]
    exact ChD.congr rest (k + 1) _ (fun j hj => he j (by omega)) h.2
theorem WDs.ch {Q : List Dat → Prop} : ∀ (l : List Oper) (k : Nat) (fr : List Dat), WDs P ops hp H Q l fr → ∃ dd, ChD P ops hp H dd Q l k fr
  | [], _, _, h => ⟨fun _ => dA, by cases h; assumption⟩
  | _ :: rest, k, _, h => by
    cases h
    rename_i d hd hr
    obtain ⟨dd, h1⟩ := WDs.ch rest (k + 1) _ hr
    refine ⟨fun j => if j = k then d else dd j, ?_, ?_⟩
    · simpa using hd
    · simp only [if_true]
      exact ChD.congr rest (k + 1) _ (fun j hj => by rw [if_neg (by omega)]) h1
theorem wpAnyW_lex {n g : Nat} {Lq : List Dat → Option β → Prop} {ow : Oper} (how : ops[m]? = some ow) (hs : Region.sinkB md ops (m + 1) = true) (hc : Region.chainB md ops (m + 1) = true) (hn : m + 1 < ops.size) :
    ∀ (l : List Oper) (k : Nat) (listed : Array Bool) (fr : List Dat), (∀ j, j < l.length → l[j]? = ops[k + j]?) → k + l.length = m → HeadInv md ops (m + 1) listed → (∀ j, j < k → listed.getD j true = true) →
    Region.lexHead md ops g (l.length + 1) k listed = true → ChD P ops hp H dd (fun fr => SW P ops hp H D ow fr ∧ ∀ x, Lq (setD fr ow.dst (D x)) (some x)) l k fr →
    wpAnyW P md ops hp H D dd m (m + 1) (fun listed' a' c' => Region.seqB md ops g (m + 1) listed' = true ∧ Lq a' c') (l.length + 1) listed fr none
  | [], k, listed, fr, hl, hk, inv, hbefore, hB, h => by
    have hkm : k = m := by simpa using hk
    subst hkm
    simp only [List.length_nil, Region.lexHead, Bool.and_eq_true] at hB
    obtain ⟨⟨hr, hf⟩, hB'⟩ := hB
    have hr' : k ∈ Region.ready md ops listed := by simpa using hr
    have hun := (mem_ready.1 hr').1
    refine ⟨fun h0 => (by rw [h0] at hr'; cases hr'), fun i hi => ?_⟩
    have hile : i < k + 1 := by
      rcases Nat.lt_or_ge i (k + 1) with h1 | h1
      · exact h1
      · exact absurd hi (tail_waits hs hc hn inv _ k rfl (by omega) hun i h1)
    have hik : i = k := by
      rcases Nat.lt_or_ge i k with h1 | h1
      · have h2 := (mem_ready.1 hi).1
        rw [hbefore i h1] at h2
        cases h2
      · omega
    subst hik
    exact ⟨by omega, ow, how, .inl ⟨rfl, rfl, h.1, fun x => ⟨hB', h.2 x⟩⟩⟩
  | o :: l, k, listed, fr, hl, hk, inv, hbefore, hB, h => by
    have h0 : ops[k]? = some o := by simpa using (hl 0 (by simp)).symm
    simp only [List.length_cons] at hB
    rw [Region.lexHead] at hB
    simp only [Bool.and_eq_true] at hB
    obtain ⟨⟨hr, hf⟩, hB'⟩ := hB
    have hkn : k < m := by simp only [List.length_cons] at hk; omega
    have hr' : k ∈ Region.ready md ops listed := by simpa using hr
    have hklt : k < listed.size := by rw [inv.size]; omega
    exact wpAnyW_first h0 (by omega) hs hc hn (by omega) (fun listed' a' c' hL => seqB_ready hL.1) (l.length + 1) listed fr none inv (Region.free_spec h0 hf) hr' h.1
      (wpAnyW_lex (n := n) how hs hc hn l (k + 1) _ _ (fun j hj => by have := hl (j + 1) (by simp; omega); simpa [Nat.add_assoc, Nat.add_comm 1 j] using this) (by simp only [List.length_cons] at hk; omega) (inv.set hr' (by omega))
        (fun j hj => by
          by_cases hjk : k = j
          · subst hjk; simp [hklt]
          · rw [getD_set_ne true hjk]; exact hbefore j (by omega)) hB' h.2)
theorem WC.drawW {id : Nat} {l : List Oper} {Q : Post} (n : Nat) (H : β → List HObj) (D : β → Dat) (ow : Oper) (how : l[n]? = some ow) (hm : P.follows .mixedOrders = true) (hB : Region.lexTailB .any l.toArray (n + 1) = true)
    (h : WDs P l.toArray hp H (fun f => SW P l.toArray hp H D ow f ∧ ∀ x, WL P l.toArray Q (l.drop (n + 1)) (setD f ow.dst (D x)) (H x)) (l.take n) fr) : WC P Q (.region id l.toArray true) fr hp := by
  refine WC.of fun P0 B w0 w a hh hf => ?_
  simp only [Region.lexTailB, Bool.and_eq_true, decide_eq_true_eq] at hB
  obtain ⟨⟨⟨⟨hsel, hn⟩, hs⟩, hc⟩, hlex⟩ := hB
  have hn' : n + 1 < l.length := by simpa using hn
  have htl : (l.take n).length = n := by simp; omega
  have hdl : (l.drop (n + 1)).length = l.toArray.size - (n + 1) := by simp
  have inv0 : HeadInv .any l.toArray (n + 1) (Array.replicate l.toArray.size false) :=
    ⟨by simp, fun j oj _ hl => (by rw [getD_replicate_false] at hl; cases hl), fun t _ ht => getD_in (by simpa using ht) (getD_replicate_false _ _)⟩
  obtain ⟨dd, hch⟩ := h.ch (l.take n) 0 fr
  have HW := wpAnyW_lex (n := n) (Lq := fun f c => WL P l.toArray Q (l.drop (n + 1)) f (HH hp H c)) (md := .any) (g := l.toArray.size - (n + 1)) (ow := ow) (m := n) (by simpa using how) hs hc hn (l.take n) 0 _ fr (fun j hj => by
    have hj' : j < n := by rw [htl] at hj; exact hj
    simp [hj']) (by simpa using htl) inv0 (fun j hj => by omega) (by rw [htl]; exact hlex) hch
  have hx : Ext w { w with drawn := w.drawn + 1 } := (Ext.refl w).drew
  refine wp_region_any hm ?_
  have := wpAny_of_headW (Q' := lift Q P0 B w0) (g := l.toArray.size - (n + 1)) _ _ _ none _ _ (hh.ext hx) (hf.ext hx) (fun listed fr' c a' w' hh' hf' hL => by
    have := wpAny_of_seq (md := .any) (Q' := lift Q P0 B w0) (l.drop (n + 1)) (n + 1) listed a' w' (fun j => by simp [List.getElem?_drop]) (by rw [hdl]; exact hL.1) (hL.2.on hh' hf')
    rwa [hdl] at this) HW
  rw [htl, show n + 1 + (l.toArray.size - (n + 1)) = l.toArray.size by omega] at this
  exact this
end
section
variable {P : Program} {ops : Array Oper} {hp : List HObj} {fr : List Dat} {d : Dat}
variable {dst : Option Tmp} {ty : TypeId} {ps : String} {af : Array Edge} {b cap N bytes : Nat} {e t T T2 : TypeId} {xs : List Vx} {z : Value} {ag : Bool}
theorem SW.makeO {k : Nat} {j : Int} {y : Operand} (E : ElT P t e 2 z bytes ag) (hy : OpD fr y (dI j)) (hj : j = (k : Int)) (hb : bytes * k ≤ 281474976710656) (hm : k ≤ maxLen) :
    SW P ops hp (fun b : Nat => hV b 0 k e [] :: hp) (fun b => dX (.slice (some ⟨b, 0, none⟩) 0 k)) { dst := dst, op := .makeSlice t (.const (.int .i64 0)) y, type := ty, pos := ps, after := af, guard := none } fr := ⟨rfl, fun {P0 B w0 w a} hh ho K Q hk => by
  have h1 : a.eval y = .int .i64 k := by rw [← hj]; exact hy.get (by simp [Op.operands]) ho
  obtain ⟨i, hi, hz, hsz, hbt⟩ := info_parts E.info
  obtain ⟨w', hr, r1, r2⟩ := run_make_own (P := P) w 0 t e i z 2 E.und hi hz hsz .i64 .i64 k (by rw [hbt]; exact hb) hm (Nat.zero_le _)
  have hrun : (execOp a.eval { dst := dst, op := .makeSlice t (.const (.int .i64 0)) y, type := ty, pos := ps, after := af, guard := none }).run P w = .ok (.value (.slice (some ⟨w.heap.size, 0, none⟩) 0 k)) w' := by
    unfold execOp
    have hc : a.eval (.const (.int .i64 0)) = .int .i64 0 := rfl
    simp only [h1, hc, Sem.run_bind, hr, Result.andThen_ok, Sem.run_pure]
  unfold Oper.wp
  rw [hrun]
  have hx : Ext w w' := ⟨r2.os, r2.tape, r2.output, r2.size, fun k hk => r2.block k hk (by simp)⟩
  have hb : ∀ q, (hV w.heap.size 0 k e []).blk = some q → w.heap.size ≤ q ∧ q < w'.heap.size := fun q hq => by
    cases hq
    exact ⟨Nat.le_refl _, (r1.lt _ rfl).2⟩
  exact hk w.heap.size _ w' (hh.push hx hb (ownK_flat (xs := []) r1)) (fun d u hd => Hp.pushed hx (fun k hk => (hb k hk).1) hd) rfl⟩
theorem SW.pushO {s y : Operand} {v : Vx} (E : ElT P t e 2 z bytes ag) (hs : OpD fr s (dX (.slice (some ⟨b, 0, none⟩) N cap))) (hy : OpD fr y (dS (ArrK 2 RV) [v])) (hN : N + 1 ≤ cap) :
    SW P ops (hV b N cap e xs :: hp) (fun _ : Unit => hV b (N + 1) cap e (xs ++ [v]) :: hp) (fun _ => dX (.slice (some ⟨b, 0, none⟩) (N + 1) cap)) { dst := dst, op := .call { callee := .builtin .append, args := #[s, y], argTypes := #[t, t] }, type := ty, pos := ps, after := af, guard := none } fr := ⟨rfl, fun {P0 B w0 w a} hh ho K Q hk => by
  obtain ⟨ad, cap', hv, c1, c2, c0, c3⟩ := (hy.get (by simp [Op.operands, Call.operands]) ho : ArrK 2 RV _ _ _ _)
  obtain ⟨cs, b', off, r1, r2, r3, r4, r5, r6⟩ := c3 0 (by simp)
  subst r4
  have hNx := (hV_row.1 (hh.ok (hV b N cap e xs) (by simp))).1
  have hown := ownK_owns (hh.ok (hV b N cap e xs) (by simp))
  obtain ⟨i, hi, hz, hsz, hbt⟩ := info_parts E.info
  subst hNx
  have hcs : cs = encV v := by
    have h1 : Value.agg cs.toArray = Value.agg (encV v).toArray := r1
    have h2 : cs.toArray = (encV v).toArray := by injection h1
    have := congrArg Array.toList h2
    simpa using this
  obtain ⟨w', hr, q1, q2⟩ := run_append_fits (P := P) w 0 t ty e i 2 E.und hi hsz b xs.length cap (flatV xs) hown ⟨b', off, none⟩ 1 cap' cs (by rw [r2]) (fun j u hu => by rw [Addr.add_lit]; simpa using r6 j u hu) r3 hN
  have hse : a.eval s = .slice (some ⟨b, 0, none⟩) xs.length cap := hs.get (by simp [Op.operands, Call.operands]) ho
  have hrun : (execOp a.eval { dst := dst, op := .call { callee := .builtin .append, args := #[s, y], argTypes := #[t, t] }, type := ty, pos := ps, after := af, guard := none }).run P w = .ok (.value (.slice (some ⟨b, 0, none⟩) (xs.length + 1) cap)) w' := by
    unfold execOp
    simp only [resolve, invoke, builtin, List.map_toArray, List.map_cons, List.map_nil, hse, hv, Sem.run_bind, Sem.run_pure, Result.andThen_ok]
    have e0 : ([v] : List Vx).length = 1 := rfl
    rw [e0, hr]
    simp
  unfold Oper.wp
  rw [hrun]
  have hfl : flatV xs ++ cs = flatV (xs ++ [v]) := by rw [flatV_app, hcs]; rfl
  rw [hfl] at q1
  have hok : (hV b (xs.length + 1) cap e (xs ++ [v])).ok (fun k => Imm P0 B (hV b xs.length cap e xs :: hp) k ∧ k < w.heap.size) w' := ownK_flat (by simpa using q1)
  exact hk () _ w' (hh.write (o' := hV b (xs.length + 1) cap e (xs ++ [v])) q2 (.inl rfl) hok) (fun d u hd => Hp.written (o := hV b xs.length cap e xs) (o' := hV b (xs.length + 1) cap e (xs ++ [v])) q2 (.inl rfl) hd) rfl⟩
end
section
variable {P : Program} {ops : Array Oper} {hp : List HObj} {fr : List Dat} {d : Dat}
variable {dst : Option Tmp} {ty : TypeId} {ps : String} {af : Array Edge}
theorem SW.pushO' {b cap bytes : Nat} {e t : TypeId} {xs : List Vx} {z : Value} {ag : Bool} {s y : Operand} {v : Vx} (E : ElT P t e 2 z bytes ag) (hs : OpD fr s (dX (rowV b cap xs))) (hy : OpD fr y (dS (ArrK 2 RV) [v])) (hN : xs.length + 1 ≤ cap) :
    SW P ops (hV b xs.length cap e xs :: hp) (fun _ : Unit => hV b (xs ++ [v]).length cap e (xs ++ [v]) :: hp) (fun _ => dX (rowV b cap (xs ++ [v]))) { dst := dst, op := .call { callee := .builtin .append, args := #[s, y], argTypes := #[t, t] }, type := ty, pos := ps, after := af, guard := none } fr := by
  have h := SW.pushO (hp := hp) (ops := ops) (dst := dst) (ty := ty) (ps := ps) (af := af) (xs := xs) E hs hy hN
  have hl : (xs ++ [v]).length = xs.length + 1 := by simp
  unfold rowV
  rw [hl]
  exact h
def hAll (I0 : Nat → Prop) (w0 : World) : HObj where
  blk := none
  ok := fun I w => ∀ (d : Dat) (u : Value), d.rd I0 w0 u → d.rd I w u
  weak := fun h q d u hd => d.weak (h d u hd) q
  bound := fun h d u hd => d.bound (h d u hd)
  move := fun h hg hP _ d u hd => d.grown (h d u hd) hg hP
theorem SW.callC {f : FuncId} {caps : List Value} {cl : Operand} {args : Array Operand} {ats : Array TypeId} {ds1 : List Dat} {hp1 : List HObj} {K : Dat → List HObj → Prop} {β : Type} {H : β → List HObj} {D : β → Dat} (hF : CallC P f (ds1 ++ caps.map dX) hp1 K) (he : Enters P f) (hc : OpD fr cl (dX (.func (.func f) #[] caps.toArray))) (ha : ArgsD fr args.toList ds1)
    (hK : ∀ d hp2, K d hp2 → ∃ x, d = D x ∧ hp2 = H x) :
    SW P ops (hp1 ++ hp) (fun x => H x ++ hp) D { dst := dst, op := .call { callee := .value cl, args := args, argTypes := ats }, type := ty, pos := ps, after := af, guard := none } fr := ⟨rfl, fun {P0 B w0 w a} hh ho KK QQ hkk => by
  have hev : a.eval cl = .func (.func f) #[] caps.toArray := hc.get (by simp [Op.operands, Call.operands]) ho
  have h4 := he (args.map a.eval ++ caps.toArray) w
  have hrun : (execOp a.eval { dst := dst, op := .call { callee := .value cl, args := args, argTypes := ats }, type := ty, pos := ps, after := af, guard := none }).run P w = .ok (.enter f (args.map a.eval ++ caps.toArray)) w := by
    unfold execOp
    simp only [resolve]
    simp [hev, Deferred.ofValue, invoke, h4]
  unfold Oper.wp
  rw [hrun]
  have hgb : (hAll (Imm P0 B (hp1 ++ hp)) w).blk = none := rfl
  have hG : Hp P0 B w0 (hp1 ++ hAll (Imm P0 B (hp1 ++ hp)) w :: hp) w := Hp.ghost hgb hh (fun d u hd => hd)
  have hvs : args.map a.eval ++ caps.toArray = (args.toList.map a.eval ++ caps).toArray := by apply Array.ext'; simp
  have hal : args.size = ds1.length := by simpa using ha.1
  have hl : (args.toList.map a.eval ++ caps).length = (ds1 ++ caps.map dX).length := by simp [hal]
  have hcalls := hF.out P0 B w0 (hAll (Imm P0 B (hp1 ++ hp)) w :: hp) (args.toList.map a.eval ++ caps) w hG hl fun i d hd => by
    by_cases hi : i < ds1.length
    · rw [List.getElem?_append_left hi] at hd
      have hi' : i < args.toList.length := by simpa [hal] using hi
      have h2 := (ha.2 i _ d (List.getElem?_eq_getElem hi') hd).get (by simp only [Op.operands, Call.operands]; simp) ho
      have hi2 : i < args.size := by simpa using hi'
      have : (args.toList.map a.eval ++ caps).getD i undef = a.eval args.toList[i] := by
        rw [List.getD_eq_getElem?_getD, List.getElem?_append_left (by simpa using hi2)]
        simp [hi2]
      rw [this]
      exact d.weak h2 fun k => (imm_ghost hgb hp1 k).2
    · rw [List.getElem?_append_right (by omega)] at hd
      rw [List.getD_eq_getElem?_getD, List.getElem?_append_right (by simp; omega)]
      have hlen : (args.toList.map a.eval).length = ds1.length := by simp [hal]
      rw [hlen]
      rw [List.getElem?_map] at hd
      cases hq : caps[i - ds1.length]? with
      | none => rw [hq] at hd; cases hd
      | some u => rw [hq] at hd; cases hd; rfl
  rw [hvs]
  exact hcalls.mono fun e w' ⟨v, d', hp2, hv, hk, hh', hd'⟩ => by
    subst hv
    obtain ⟨x, rfl, rfl⟩ := hK d' hp2 hk
    obtain ⟨hh2, hok2⟩ := hh'.unghost hgb
    exact hkk x v w' hh2 (fun d u hd => hok2 d u hd) ((D x).weak hd' fun k => (imm_ghost hgb (H x) k).1)⟩
end
namespace I
section
variable {P : Program} {ops : Array Oper} {hp : List HObj} {md : Region.Mode} {β : Type} {H : β → List HObj} {D : β → Dat} {dd : Nat → Dat} {m : Nat} {fr fr' : List Dat} {o : Oper}
theorem wpAnyIn_of_headW {n g : Nat} {L : Array Bool → List Dat → Option β → Prop} {Q' : Exit → Act → World → Prop} {P0 : Nat → Prop} {B : Nat} {w0 : World} : ∀ (f : Nat) (listed : Array Bool) (fr : List Dat) (c : Option β) (a : Act) (w : World), Hp P0 B w0 (HH hp H c) w → Fr (Imm P0 B (HH hp H c)) w a fr →
    (∀ listed fr c a w', Hp P0 B w0 (HH hp H c) w' → Fr (Imm P0 B (HH hp H c)) w' a fr → L listed fr c → wpAnyIn Fence.wide 0 P md ops Q' g listed a w') → wpAnyW P md ops hp H D dd m n L f listed fr c → wpAnyIn Fence.wide 0 P md ops Q' (f + g) listed a w
  | 0, listed, fr, c, a, w, hh, hf, hL, h => by rw [Nat.zero_add]; exact hL _ _ _ _ _ hh hf h
  | f + 1, listed, fr, c, a, w, hh, hf, hL, h => by
    rw [show f + 1 + g = (f + g) + 1 by omega]
    refine ⟨fun h0 => absurd h0 h.1, fun i hi => ?_⟩
    obtain ⟨o, ho, h1⟩ := (h.2 i hi).2
    unfold wpOpIn
    simp only [ho]
    rcases h1 with ⟨hm, hc, hw, hk⟩ | ⟨hm, hs, hk⟩
    · subst hc
      have hwant : Region.wanted o (yielded ops a.tmps) = true := by simp [Region.wanted, hw.guard]
      rw [if_pos hwant]
      refine oper_wide (hw.out hh (hf.on _) _ _ fun x v w' hh' hrd hd => ?_)
      exact wpAnyIn_of_headW f _ _ (some x) _ _ hh' (Fr.put (hf.mono fun d u hu => hrd d u hu) hd) hL (hk x)
    · have := (hs c).step (Q := Q') hh hf (K := wpAnyIn Fence.wide 0 P md ops Q' (f + g) (listed.setIfInBounds i true)) fun a' w' e hf' => wpAnyIn_of_headW f _ _ c _ _ (hh.ext e) hf' hL hk
      split
      · rename_i hw; rw [if_pos hw] at this; exact oper_wide this
      · rename_i hw; rw [if_neg hw] at this; exact ⟨fun _ _ => trivial, this⟩
theorem WC.drawW {id : Nat} {l : List Oper} {Q : Post} (n : Nat) (H : β → List HObj) (D : β → Dat) (ow : Oper) (how : l[n]? = some ow) (hm : P.follows .mixedOrders = true) (hB : Region.lexTailB .any l.toArray (n + 1) = true)
    (h : WDs P l.toArray hp H (fun f => SW P l.toArray hp H D ow f ∧ ∀ x, WL P l.toArray Q (l.drop (n + 1)) (setD f ow.dst (D x)) (H x)) (l.take n) fr) : WC P Q (.region id l.toArray true) fr hp := by
  refine WC.of fun P0 B w0 w a hh hf => ?_
  simp only [Region.lexTailB, Bool.and_eq_true, decide_eq_true_eq] at hB
  obtain ⟨⟨⟨⟨hsel, hn⟩, hs⟩, hc⟩, hlex⟩ := hB
  have hn' : n + 1 < l.length := by simpa using hn
  have htl : (l.take n).length = n := by simp; omega
  have hdl : (l.drop (n + 1)).length = l.toArray.size - (n + 1) := by simp
  have inv0 : HeadInv .any l.toArray (n + 1) (Array.replicate l.toArray.size false) :=
    ⟨by simp, fun j oj _ hl => (by rw [getD_replicate_false] at hl; cases hl), fun t _ ht => getD_in (by simpa using ht) (getD_replicate_false _ _)⟩
  obtain ⟨dd, hch⟩ := h.ch (l.take n) 0 fr
  have HW := wpAnyW_lex (n := n) (Lq := fun f c => WL P l.toArray Q (l.drop (n + 1)) f (HH hp H c)) (md := .any) (g := l.toArray.size - (n + 1)) (ow := ow) (m := n) (by simpa using how) hs hc hn (l.take n) 0 _ fr (fun j hj => by
    have hj' : j < n := by rw [htl] at hj; exact hj
    simp [hj']) (by simpa using htl) inv0 (fun j hj => by omega) (by rw [htl]; exact hlex) hch
  have hx : Ext w { w with drawn := w.drawn + 1 } := (Ext.refl w).drew
  refine wpIn_wide.1 (wpIn_region_any (n := 0) hm ?_)
  have := wpAnyIn_of_headW (Q' := lift Q P0 B w0) (g := l.toArray.size - (n + 1)) _ _ _ none _ _ (hh.ext hx) (hf.ext hx) (fun listed fr' c a' w' hh' hf' hL => by
    have := wpAnyIn_of_seq (md := .any) (Q' := lift Q P0 B w0) (l.drop (n + 1)) (n + 1) listed a' w' (fun j => by simp [List.getElem?_drop]) (by rw [hdl]; exact hL.1) (hL.2.on hh' hf')
    rwa [hdl] at this) HW
  rw [htl, show n + 1 + (l.toArray.size - (n + 1)) = l.toArray.size by omega] at this
  exact this
end
end I
end Go.Proofs.YtgppfikidagfpaaGreatDoor
namespace Go.Proofs.YtgppfikidagfpaaGreatDoor
open Go.RowKit
section
variable {P : Program} {ops : Array Oper} {hp : List HObj} {o : Oper} {fr : List Dat} {d : Dat} {Q : Exit → Act → World → Prop} {rest : List Oper} {P0 : Nat → Prop} {B : Nat} {w0 w : World} {a : Act}
theorem wpList_defers (hg : o.guard = none) (h : SY P ops hp o fr d) (hh : Hp P0 B w0 hp w) (hf : Fr (Imm P0 B hp) w { tmps := a.tmps, defers := [] } fr)
    (k : ∀ a' w', a'.defers = a.defers → Hp P0 B w0 hp w' → Fr (Imm P0 B hp) w' { tmps := a'.tmps, defers := [] } (setD fr o.dst d) → wpList P ops Q rest a' w') : wpList P ops Q (o :: rest) a w := by
  unfold wpList
  have hwant : Region.wanted o (yielded ops a.tmps) = true := by simp [Region.wanted, hg]
  rw [if_pos hwant]
  refine .inl (h.out hh (a := a) ⟨hf.size, fun t _ d hd => hf.rd t d hd⟩ _ _ fun v w' e hd => ?_)
  have hf2 := Fr.put (x := o.dst) (hf.ext e) hd
  refine k (a.put o.dst v) w' ?_ (hh.ext e) ?_
  · cases o.dst <;> rfl
  · have e1 : ({ tmps := (a.put o.dst v).tmps, defers := [] } : Act) = ({ tmps := a.tmps, defers := [] } : Act).put o.dst v := by cases o.dst <;> rfl
    rw [e1]; exact hf2
end
namespace I
section
variable {P : Program} {ops : Array Oper} {hp : List HObj} {fr : List Dat} {Q : Post} {rest : List Oper}
theorem WL.knowRow {α : Type} {R : Rel α} {_gR : Good R} {v : Value} {e : TypeId} {xs : List α} (hm : hRow v e R xs ∈ hp) (h : (∃ a c, v = .slice a xs.length c) → WL P ops Q rest fr hp) : WL P ops Q rest fr hp := WL.of fun _ _ _ _ _ hh hf =>
  (h (Own.len (hh.ok _ hm))).on hh hf
end
end I
end Go.Proofs.YtgppfikidagfpaaGreatDoor
namespace Go.Proofs.YtgppfikidagfpaaGreatDoor
open Go.RowKit
structure YStepE (P : Program) (l : Nat) {α : Type} (D : α → Dat) (J E : List α → List HObj → Prop) (N : Nat) : Prop where
  out : ∀ (P0 : Nat → Prop) (B : Nat) (w0 : World) (hp : List HObj) (pre : List α) (js : List HObj) (x : α) (u : Value) (W : World), pre.length < N → J pre js → Hp P0 B w0 (js ++ hp) W → (D x).rd (Imm P0 B (js ++ hp)) W u →
    YieldAt Fence.wide 0 P l #[u] W fun e W' => ∃ b : Bool, e = .returned (.bool b) ∧ ∃ js', (if b = true then J (pre ++ [x]) js' else E (pre ++ [x]) js') ∧ Hp P0 B w0 (js' ++ hp) W'
structure SeqE (P : Program) (gf : FuncId) (lb : List Value) (hk : List HObj) {α : Type} (D : α → Dat) (xs : List α) : Prop where
  out : ∀ (l : Nat) (J E : List α → List HObj → Prop), YStepE P l D J E xs.length → ∀ js, J [] js → CallC P gf (dX (.func (.yield l) #[] #[]) :: lb.map dX) (js ++ hk) (fun _ hp2 => ∃ js', (J xs js' ∨ ∃ pre x t, xs = pre ++ x :: t ∧ E (pre ++ [x]) js') ∧ hp2 = js' ++ hk)
theorem CallC.monoK {P : Program} {f : FuncId} {ds : List Dat} {hp1 : List HObj} {K K' : Dat → List HObj → Prop} (h : CallC P f ds hp1 K) (k : ∀ d hp2, K d hp2 → K' d hp2) : CallC P f ds hp1 K' :=
  ⟨fun P0 B w0 hp vs W hh hl hv => (h.out P0 B w0 hp vs W hh hl hv).mono fun _ _ ⟨v, d, hp2, e, hk, r⟩ => ⟨v, d, hp2, e, k d hp2 hk, r⟩⟩
theorem yieldAt_mono {F : Fence} {m : Nat} {P : Program} {l : Nat} {args : Array Value} {W : World} {R R' : Ending → World → Prop} (h : YieldAt F m P l args W R) (k : ∀ e w, R e w → R' e w) : YieldAt F m P l args W R' := by
  obtain ⟨fn, tmps, assign, body, hrun, hR⟩ := h
  exact ⟨fn, tmps, assign, body, hrun, hR.mono k⟩
theorem SeqE.seq {P : Program} {gf : FuncId} {lb : List Value} {hk : List HObj} {α : Type} {D : α → Dat} {xs : List α} (h : SeqE P gf lb hk D xs) : SeqC P gf lb hk D xs := ⟨fun l J hY js hj =>
  (h.out l J (fun _ _ => False) ⟨fun P0 B w0 hp pre js x u W hn hj hh hu => yieldAt_mono (hY.out P0 B w0 hp pre js x u W hn hj hh hu) fun _ _ ⟨he, js', hj', hh'⟩ => ⟨true, he, js', hj', hh'⟩⟩ js hj).monoK fun _ _ ⟨js', h1, h2⟩ => ⟨js', h1.elim id fun ⟨_, _, _, _, h3⟩ => h3.elim, h2⟩⟩
namespace I
section
variable {P : Program} {ops : Array Oper} {hp : List HObj} {fr : List Dat} {Q : Post} {rest : List Oper} {dst : Option Tmp} {ty : TypeId} {ps : String} {af : Array Edge} {d : Dat} {c : Code}
theorem yield_core {l : Nat} {α : Type} {D : α → Dat} {J E : List α → List HObj → Prop} {t : Tmp} {x : Operand} {ats : Array TypeId} {pre : List α} {js : List HObj} {y : α} {N : Nat} {g : Option (Nat × Bool)} (hy : YStepE P l D J E N) (hn : pre.length < N) (hj : J pre js) (ht : OpD fr (.tmp t) (dX (.func (.yield l) #[] #[]))) (hx : OpD fr x (D y))
    {P0 : Nat → Prop} {B : Nat} {w0 w : World} {a : Act} (hh : Hp P0 B w0 (js ++ hp) w) (hf : Fr (Imm P0 B (js ++ hp)) w a fr) {K : Act → World → Prop} {Q : Exit → Act → World → Prop}
    (h : ∀ (b : Bool) js' a' w', (if b = true then J (pre ++ [y]) js' else E (pre ++ [y]) js') → Hp P0 B w0 (js' ++ hp) w' → Fr (Imm P0 B (js' ++ hp)) w' a' (setD fr dst (dB b)) → K a' w') :
    Oper.wpIn Fence.wide 0 P { dst := dst, op := .call { callee := .value (.tmp t), args := #[x], argTypes := ats }, type := ty, pos := ps, after := af, guard := g } a w K Q := by
  have hgb : (hFr a fr).blk = none := rfl
  have hG : Hp P0 B w0 (js ++ hFr a fr :: hp) w := Hp.ghost hgb hh hf.rd
  have hev : a.eval (.tmp t) = .func (.yield l) #[] #[] := ht.ev hf
  have hyy := hy.out P0 B w0 (hFr a fr :: hp) pre js y (a.eval x) w hn hj hG ((D y).weak (hx.ev hf) fun k => (imm_ghost hgb _ k).2)
  obtain ⟨fn, tmps, assign, body, hrun, hR⟩ := hyy
  refine ⟨fun _ _ => trivial, ?_⟩
  have hr : (execOp a.eval { dst := dst, op := .call { callee := .value (.tmp t), args := #[x], argTypes := ats }, type := ty, pos := ps, after := af, guard := g }).run P w = .ok (.round l fn tmps assign body) w := by
    unfold execOp
    simp only [resolve]
    simp [hev, Deferred.ofValue, invoke, hrun]
  rw [show Fence.wide.round = none from rfl, Oper.semAt_none, hr]
  refine ⟨fun h => by simp [Fence.wide] at h, hR.mono fun e W' ⟨b, he, js', hj', hh'⟩ => ?_⟩
  subst he
  obtain ⟨hh2, hok2⟩ := hh'.unghost hgb
  exact h b js' _ _ hj' hh2 (Fr.put (⟨hf.defers, hf.size, hok2⟩ : Fr (Imm P0 B (js' ++ hp)) W' a fr) (d := dB b) rfl)
theorem WL.yieldG {l : Nat} {α : Type} {D : α → Dat} {J E : List α → List HObj → Prop} {t gi s : Nat} {pol : Bool} {x : Operand} {ats : Array TypeId} {pre : List α} {js : List HObj} {y : α} {N : Nat} (hs : (ops[gi]?).bind (·.dst) = some s) (hb : fr[s]? = some (dB pol)) (hy : YStepE P l D J E N) (hn : pre.length < N) (hj : J pre js) (ht : OpD fr (.tmp t) (dX (.func (.yield l) #[] #[]))) (hx : OpD fr x (D y))
    (h : ∀ (b : Bool) js', (if b = true then J (pre ++ [y]) js' else E (pre ++ [y]) js') → WL P ops Q rest (setD fr dst (dB b)) (js' ++ hp)) :
    WL P ops Q ({ dst := dst, op := .call { callee := .value (.tmp t), args := #[x], argTypes := ats }, type := ty, pos := ps, after := af, guard := some (gi, pol) } :: rest) fr (js ++ hp) := by
  refine WL.of fun P0 B w0 w a hh hf => ?_
  unfold wpListIn
  have hwant : Region.wanted { dst := dst, op := Op.call { callee := .value (.tmp t), args := #[x], argTypes := ats }, type := ty, pos := ps, after := af, guard := some (gi, pol) } (yielded ops a.tmps) = true :=
    (want_yes rfl hs hb rfl).out _ w a (hf.on _)
  rw [if_pos hwant]
  exact yield_core hy hn hj ht hx hh hf fun b js' a' w' hj' hh' hf' => (h b js' hj').on hh' hf'
end
end I
section
variable {P : Program} {l : Nat} {Q : Post} {fr : List Dat} {hp : List HObj}
theorem WR.ret (h : Q .ret fr hp) : WR P l Q .ret fr hp := WR.of fun _ _ _ _ _ hh hf => wpIn_ret ⟨fr, hp, h, hh, hf⟩
theorem WR.cond {c : Operand} {x y : Code} {b : Bool} (hc : OpD fr c (dB b)) (ht : b = true → WR P l Q x fr hp) (hf : b = false → WR P l Q y fr hp) : WR P l Q (.cond c x y) fr hp := WR.of fun P0 B w0 w a hh hfr => by
  refine wpIn_cond (t := b) (hc.ev hfr) ?_
  cases b with
  | true => exact (ht rfl).out _ _ _ _ _ hh hfr
  | false => exact (hf rfl).out _ _ _ _ _ hh hfr
theorem WR.use {c : Code} {d : Dat} {v : Value} (t : Nat) (ht : fr[t]? = some (dX v)) (hm : hKnow v d ∈ hp) (h : WR P l Q c (fr.set t d) hp) : WR P l Q c fr hp := WR.of fun P0 B w0 w a hh hf => by
  refine h.out _ _ _ _ _ hh ⟨hf.defers, by rw [hf.size, List.length_set], fun t' d' hd' => ?_⟩
  by_cases htt : t = t'
  · subst htt
    rw [List.getElem?_set] at hd'
    simp only [if_true] at hd'
    split at hd'
    · cases hd'
      have h1 : a.tmps.getD t undef = v := hf.rd t _ ht
      rw [h1]
      exact hh.ok _ hm
    · cases hd'
  · rw [List.getElem?_set_ne htt] at hd'
    exact hf.rd t' d' hd'
end
end Go.Proofs.YtgppfikidagfpaaGreatDoor
