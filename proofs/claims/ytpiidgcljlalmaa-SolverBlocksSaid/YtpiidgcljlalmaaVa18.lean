/- Part 18: walks by contracts, and plain laws. -/
import Derived.Test.YtpiidgcljlalmaaVa17
set_option linter.unusedVariables false
set_option linter.unusedSimpArgs false
set_option linter.unusedSectionVars false
namespace Go.Proofs.Ytpiidgcljlalmaa
open Go.RowKit
section
variable {P : Program} {ops : Array Oper} {hp : List HObj} {md : Region.Mode} {β : Type} {H : β → List HObj} {D : β → Dat} {dd : Nat → Dat} {m : Nat} {fr fr' : List Dat} {o : Oper}
def bndB (md : Region.Mode) (ops : Array Oper) (m i : Nat) : Bool := match ops[m]? with
  | some om => om.after.toList.any fun e => Region.binds md e && e.on == i
  | none => false
theorem bndB_spec {m i : Nat} (h : bndB md ops m i = true) : ∃ om, ops[m]? = some om ∧ ∃ e, e ∈ om.after ∧ Region.binds md e = true ∧ e.on = i := by
  unfold bndB at h
  cases ho : ops[m]? with
  | none => rw [ho] at h; cases h
  | some om =>
    rw [ho] at h
    simp only [List.any_eq_true, Bool.and_eq_true, beq_iff_eq] at h
    obtain ⟨e, he, hb, heo⟩ := h
    exact ⟨om, rfl, e, by simpa using he, hb, heo⟩
def sOpE (P : Program) (md : Region.Mode) (ops : Array Oper) (hp : List HObj) {β : Type} (H : β → List HObj) (D : β → Dat) (dd : Nat → Dat) (m : Nat) (i : Nat) (K : List Dat → Option β → Prop) (fr : List Dat) (c : Option β) : Prop :=
  ∃ o, ops[i]? = some o ∧ ((i = m ∧ c = none ∧ SW P ops hp H D o fr ∧ ∀ x, K (setD fr o.dst (D x)) (some x)) ∨ (i ≠ m ∧ (∀ c : Option β, (c ≠ none → bndB md ops m i = false) → SYG P ops (HH hp H c) o fr (dd i)) ∧ K (setD fr o.dst (dd i)) c))
def wpAnyE (P : Program) (md : Region.Mode) (ops : Array Oper) (hp : List HObj) {β : Type} (H : β → List HObj) (D : β → Dat) (dd : Nat → Dat) (m n : Nat) (L : Array Bool → List Dat → Option β → Prop) : Nat → Array Bool → List Dat → Option β → Prop
  | 0, listed, fr, c => L listed fr c
  | f + 1, listed, fr, c =>
    Region.ready md ops listed ≠ [] ∧ ∀ i ∈ Region.ready md ops listed, i < n ∧ sOpE P md ops hp H D dd m i (wpAnyE P md ops hp H D dd m n L f (listed.setIfInBounds i true)) fr c
theorem wpAny_of_headE {n g : Nat} {L : Array Bool → List Dat → Option β → Prop} {Q' : Exit → Act → World → Prop} {P0 : Nat → Prop} {B : Nat} {w0 : World} : ∀ (f : Nat) (listed : Array Bool) (fr : List Dat) (c : Option β) (a : Act) (w : World), HeadInv md ops n listed → m < ops.size → (c ≠ none → listed.getD m false = true) → Hp P0 B w0 (HH hp H c) w → Fr (Imm P0 B (HH hp H c)) w a fr →
    (∀ listed fr c a w', Hp P0 B w0 (HH hp H c) w' → Fr (Imm P0 B (HH hp H c)) w' a fr → L listed fr c → wpAny P md ops Q' g listed a w') → wpAnyE P md ops hp H D dd m n L f listed fr c → wpAny P md ops Q' (f + g) listed a w
  | 0, listed, fr, c, a, w, _, _, _, hh, hf, hL, h => by rw [Nat.zero_add]; exact hL _ _ _ _ _ hh hf h
  | f + 1, listed, fr, c, a, w, inv, hms, hcm, hh, hf, hL, h => by
    rw [show f + 1 + g = (f + g) + 1 by omega]
    refine ⟨fun h0 => absurd h0 h.1, fun i hi => ?_⟩
    obtain ⟨o, ho, h1⟩ := (h.2 i hi).2
    have inv' := inv.set hi (h.2 i hi).1
    unfold wpOp
    simp only [ho]
    rcases h1 with ⟨hm, hc, hw, hk⟩ | ⟨hm, hs, hk⟩
    · subst hc
      have hwant : Region.wanted o (yielded ops a.tmps) = true := by simp [Region.wanted, hw.guard]
      rw [if_pos hwant]
      have hcm' : ∀ x : β, (some x : Option β) ≠ none → (listed.setIfInBounds i true).getD m false = true := fun x _ => by
        subst hm
        have : i < listed.size := by rw [inv.size]; exact hms
        simp [this]
      refine .inl (hw.out hh (hf.on _) _ _ fun x v w' hh' hrd hd => ?_)
      exact wpAny_of_headE f _ _ (some x) _ _ inv' hms (hcm' x) hh' (Fr.put (hf.mono fun d u hu => hrd d u hu) hd) hL (hk x)
    · have hcb : c ≠ none → bndB md ops m i = false := fun hcn => by
        cases hb : bndB md ops m i with
        | false => rfl
        | true =>
          have hlm := hcm hcn
          obtain ⟨om, hom, e, he, hbe, heo⟩ := bndB_spec hb
          have hli := inv.closed m om hom hlm e he hbe
          rw [heo, getD_both (mem_ready.1 hi).1] at hli
          cases hli
      have := (hs c hcb).step (Q := Q') hh hf (K := wpAny P md ops Q' (f + g) (listed.setIfInBounds i true)) fun a' w' e hf' => wpAny_of_headE f _ _ c _ _ inv' hms (fun hcn => by rw [getD_set_ne false hm]; exact hcm hcn) (hh.ext e) hf' hL hk
      split
      · rename_i hw; rw [if_pos hw] at this; exact .inl this
      · rename_i hw; rw [if_neg hw] at this; exact this
theorem wpAnyE_first {n i : Nat} {oi : Oper} {L : Array Bool → List Dat → Option β → Prop} (hi : ops[i]? = some oi) (him : i ≠ m)
    (hs : Region.sinkB md ops n = true) (hc : Region.chainB md ops n = true) (hn : n < ops.size) (hin : i < n)
    (hdone : ∀ listed a c, L listed a c → ∀ j ∈ Region.ready md ops listed, n ≤ j) :
    ∀ (f : Nat) (listed : Array Bool) (fr : List Dat) (c : Option β), HeadInv md ops n listed →
      (∀ j oj, ops[j]? = some oj → j ≠ i → listed.getD j true = false → (∀ e ∈ oj.after, Region.binds md e = true → e.on ≠ i) → oi.apart ops oj = true) →
      i ∈ Region.ready md ops listed → (∀ c : Option β, (c ≠ none → bndB md ops m i = false) → SYG P ops (HH hp H c) oi fr (dd i)) →
      wpAnyE P md ops hp H D dd m n L f (listed.setIfInBounds i true) (setD fr oi.dst (dd i)) c → wpAnyE P md ops hp H D dd m n L (f + 1) listed fr c := by
  intro f
  induction f with
  | zero =>
    intro listed fr c inv _ hr hy H
    have hun := (mem_ready.1 hr).1
    refine ⟨fun h => (by rw [h] at hr; cases hr), fun j hj => ?_⟩
    have hjn : j < n := by
      rcases Nat.lt_or_ge j n with h | h
      · exact h
      · exact absurd hj (tail_waits hs hc hn inv _ i rfl hin hun j h)
    refine ⟨hjn, ?_⟩
    by_cases hji : j = i
    · subst hji; exact ⟨oi, hi, .inr ⟨him, hy, H⟩⟩
    · have := hdone _ _ _ H j (ready_mono hj hji)
      omega
  | succ f ih =>
    intro listed fr c inv hfree hr hy H
    have hun := (mem_ready.1 hr).1
    refine ⟨fun h => (by rw [h] at hr; cases hr), fun j hj => ?_⟩
    have hjn : j < n := by
      rcases Nat.lt_or_ge j n with h | h
      · exact h
      · exact absurd hj (tail_waits hs hc hn inv _ i rfl hin hun j h)
    refine ⟨hjn, ?_⟩
    by_cases hji : j = i
    · subst hji; exact ⟨oi, hi, .inr ⟨him, hy, H⟩⟩
    · obtain ⟨oj', hoj', h1⟩ := (H.2 j (ready_mono hj hji)).2
      obtain ⟨hjun, oj, hoj, hall⟩ := mem_ready.1 hj
      have hoo : oj = oj' := by rw [hoj] at hoj'; simpa using hoj'
      subst hoo
      have hnot : ∀ e ∈ oj.after, Region.binds md e = true → e.on ≠ i := fun e he hb heq => by
        have h1 := hall e he hb
        rw [heq, getD_both hun] at h1
        cases h1
      obtain ⟨a1, a2, a3⟩ := Oper.apart_spec (hfree j oj hoj hji hjun hnot)
      have hfree' : ∀ k ok, ops[k]? = some ok → k ≠ i → (listed.setIfInBounds j true).getD k true = false →
          (∀ e ∈ ok.after, Region.binds md e = true → e.on ≠ i) → oi.apart ops ok = true := fun k ok hk hki hun hno => by
        refine hfree k ok hk hki ?_ hno
        by_cases hjk : j = k
        · subst hjk; exact hjun
        · rw [getD_set_ne true hjk] at hun; exact hun
      have key : ∀ (d : Dat) (c' : Option β), wpAnyE P md ops hp _ D dd m n L f ((listed.setIfInBounds i true).setIfInBounds j true) (setD (setD fr oi.dst (dd i)) oj.dst d) c' →
          wpAnyE P md ops hp _ D dd m n L (f + 1) (listed.setIfInBounds j true) (setD fr oj.dst d) c' := fun d c' hk => by
        refine ih (listed.setIfInBounds j true) (setD fr oj.dst d) c' (inv.set hj hjn) hfree' (ready_mono hr (Ne.symm hji)) (fun c hc => (hy c hc).same (setD_length _ _ _) fun t ht => setD_other fun e => a3 t e ht) ?_
        rw [Array.setIfInBounds_comm _ _ hji, ← setD_comm fr (dd i) d a2]
        exact hk
      refine ⟨oj, hoj, ?_⟩
      rcases h1 with ⟨hm, hcn, hw, hk⟩ | ⟨hm, hs', hk⟩
      · exact .inl ⟨hm, hcn, hw.same (setD_length _ _ _).symm fun t ht => (setD_other fun e => a1 t e ht).symm, fun x => key _ _ (hk x)⟩
      · exact .inr ⟨hm, fun c hc => (hs' c hc).same (setD_length _ _ _).symm fun t ht => (setD_other fun e => a1 t e ht).symm, key _ _ hk⟩
inductive WDe (P : Program) (md : Region.Mode) (ops : Array Oper) (hp : List HObj) {β : Type} (H : β → List HObj) (m : Nat) (Q : List Dat → Prop) : Nat → List Oper → List Dat → Prop
  | nil {k : Nat} {fr : List Dat} : Q fr → WDe P md ops hp H m Q k [] fr
  | early {k : Nat} {o : Oper} {rest : List Oper} {fr : List Dat} {d : Dat} : bndB md ops m k = true → SYG P ops hp o fr d → WDe P md ops hp H m Q (k + 1) rest (setD fr o.dst d) → WDe P md ops hp H m Q k (o :: rest) fr
  | both {k : Nat} {o : Oper} {rest : List Oper} {fr : List Dat} {d : Dat} : (∀ c, SYG P ops (HH hp H c) o fr d) → WDe P md ops hp H m Q (k + 1) rest (setD fr o.dst d) → WDe P md ops hp H m Q k (o :: rest) fr
def ChE (P : Program) (md : Region.Mode) (ops : Array Oper) (hp : List HObj) {β : Type} (H : β → List HObj) (m : Nat) (dd : Nat → Dat) (Q : List Dat → Prop) : List Oper → Nat → List Dat → Prop
  | [], _, fr => Q fr
  | o :: rest, k, fr => (∀ c : Option β, (c ≠ none → bndB md ops m k = false) → SYG P ops (HH hp H c) o fr (dd k)) ∧ ChE P md ops hp H m dd Q rest (k + 1) (setD fr o.dst (dd k))
theorem ChE.congr {dd' : Nat → Dat} {Q : List Dat → Prop} : ∀ (l : List Oper) (k : Nat) (fr : List Dat), (∀ j, k ≤ j → dd j = dd' j) → ChE P md ops hp H m dd Q l k fr → ChE P md ops hp H m dd' Q l k fr
  | [], _, _, _, h => h
  | _ :: rest, k, _, he, h => by
    refine ⟨by rw [← he k (Nat.le_refl _)]; exact h.1, ?_⟩
    rw [← he k (Nat.le_refl _)]
    exact ChE.congr rest (k + 1) _ (fun j hj => he j (by omega)) h.2
theorem WDe.ch {Q : List Dat → Prop} : ∀ (l : List Oper) (k : Nat) (fr : List Dat), WDe P md ops hp H m Q k l fr → ∃ dd, ChE P md ops hp H m dd Q l k fr
  | [], _, _, h => ⟨fun _ => dA, by cases h; assumption⟩
  | o :: rest, k, fr, h => by
    have key : ∀ d, (∀ c : Option β, (c ≠ none → bndB md ops m k = false) → SYG P ops (HH hp H c) o fr d) → WDe P md ops hp H m Q (k + 1) rest (setD fr o.dst d) → ∃ dd, ChE P md ops hp H m dd Q (o :: rest) k fr := fun d hd hr => by
      obtain ⟨dd, h1⟩ := WDe.ch rest (k + 1) _ hr
      refine ⟨fun j => if j = k then d else dd j, ?_, ?_⟩
      · simpa using hd
      · simp only [if_true]
        exact ChE.congr rest (k + 1) _ (fun j hj => by rw [if_neg (by omega)]) h1
    cases h with
    | early hb hs hr => exact key _ (fun c hc => by
        cases c with
        | none => exact hs
        | some x => rw [hc (by simp)] at hb; cases hb) hr
    | both hs hr => exact key _ (fun c _ => hs c) hr
theorem wpAnyE_lex {n g : Nat} {Lq : List Dat → Option β → Prop} {ow : Oper} (how : ops[m]? = some ow) (hs : Region.sinkB md ops (m + 1) = true) (hc : Region.chainB md ops (m + 1) = true) (hn : m + 1 < ops.size) :
    ∀ (l : List Oper) (k : Nat) (listed : Array Bool) (fr : List Dat), (∀ j, j < l.length → l[j]? = ops[k + j]?) → k + l.length = m → HeadInv md ops (m + 1) listed → (∀ j, j < k → listed.getD j true = true) →
    Region.lexHead md ops g (l.length + 1) k listed = true → ChE P md ops hp H m dd (fun fr => SW P ops hp H D ow fr ∧ ∀ x, Lq (setD fr ow.dst (D x)) (some x)) l k fr →
    wpAnyE P md ops hp H D dd m (m + 1) (fun listed' a' c' => Region.seqB md ops g (m + 1) listed' = true ∧ Lq a' c') (l.length + 1) listed fr none
  | [], k, listed, fr, hl, hk, inv, hbefore, hB, h => by
    have hkm : k = m := by simpa using hk
    subst hkm
    simp only [List.length_nil, Region.lexHead, Bool.and_eq_true] at hB
    obtain ⟨⟨hr, hf⟩, hB'⟩ := hB
    have hr' : k ∈ Region.ready md ops listed := by simpa using hr
    have hun := (mem_ready.1 hr').1
    refine ⟨fun h0 => (by rw [h0] at hr'; cases hr'), fun i hi => ?_⟩
    have hile : i < k + 1 := by
      rcases Nat.lt_or_ge i (k + 1) with h1 | h1
      · exact h1
      · exact absurd hi (tail_waits hs hc hn inv _ k rfl (by omega) hun i h1)
    have hik : i = k := by
      rcases Nat.lt_or_ge i k with h1 | h1
      · have h2 := (mem_ready.1 hi).1
        rw [hbefore i h1] at h2
        cases h2
      · omega
    subst hik
    exact ⟨by omega, ow, how, .inl ⟨rfl, rfl, h.1, fun x => ⟨hB', h.2 x⟩⟩⟩
  | o :: l, k, listed, fr, hl, hk, inv, hbefore, hB, h => by
    have h0 : ops[k]? = some o := by simpa using (hl 0 (by simp)).symm
    simp only [List.length_cons] at hB
    rw [Region.lexHead] at hB
    simp only [Bool.and_eq_true] at hB
    obtain ⟨⟨hr, hf⟩, hB'⟩ := hB
    have hkn : k < m := by simp only [List.length_cons] at hk; omega
    have hr' : k ∈ Region.ready md ops listed := by simpa using hr
    have hklt : k < listed.size := by rw [inv.size]; omega
    exact wpAnyE_first h0 (by omega) hs hc hn (by omega) (fun listed' a' c' hL => seqB_ready hL.1) (l.length + 1) listed fr none inv (Region.free_spec h0 hf) hr' h.1
      (wpAnyE_lex (n := n) how hs hc hn l (k + 1) _ _ (fun j hj => by have := hl (j + 1) (by simp; omega); simpa [Nat.add_assoc, Nat.add_comm 1 j] using this) (by simp only [List.length_cons] at hk; omega) (inv.set hr' (by omega))
        (fun j hj => by
          by_cases hjk : k = j
          · subst hjk; simp [hklt]
          · rw [getD_set_ne true hjk]; exact hbefore j (by omega)) hB' h.2)
theorem WC.drawE {id : Nat} {l : List Oper} {Q : Post} (n : Nat) (H : β → List HObj) (D : β → Dat) (ow : Oper) (how : l[n]? = some ow) (hm : P.follows .mixedOrders = true) (hB : Region.lexTailB .any l.toArray (n + 1) = true)
    (h : WDe P .any l.toArray hp H n (fun f => SW P l.toArray hp H D ow f ∧ ∀ x, WL P l.toArray Q (l.drop (n + 1)) (setD f ow.dst (D x)) (H x)) 0 (l.take n) fr) : WC P Q (.region id l.toArray true) fr hp := by
  refine WC.of fun P0 B w0 w a hh hf => ?_
  simp only [Region.lexTailB, Bool.and_eq_true, decide_eq_true_eq] at hB
  obtain ⟨⟨⟨⟨hsel, hn⟩, hs⟩, hc⟩, hlex⟩ := hB
  have hn' : n + 1 < l.length := by simpa using hn
  have htl : (l.take n).length = n := by simp; omega
  have hdl : (l.drop (n + 1)).length = l.toArray.size - (n + 1) := by simp
  have inv0 : HeadInv .any l.toArray (n + 1) (Array.replicate l.toArray.size false) :=
    ⟨by simp, fun j oj _ hl => (by rw [getD_replicate_false] at hl; cases hl), fun t _ ht => getD_in (by simpa using ht) (getD_replicate_false _ _)⟩
  obtain ⟨dd, hch⟩ := h.ch (l.take n) 0 fr
  have HW := wpAnyE_lex (n := n) (Lq := fun f c => WL P l.toArray Q (l.drop (n + 1)) f (HH hp H c)) (md := .any) (g := l.toArray.size - (n + 1)) (ow := ow) (m := n) (by simpa using how) hs hc hn (l.take n) 0 _ fr (fun j hj => by
    have hj' : j < n := by rw [htl] at hj; exact hj
    simp [hj']) (by simpa using htl) inv0 (fun j hj => by omega) (by rw [htl]; exact hlex) hch
  have hx : Ext w { w with drawn := w.drawn + 1 } := (Ext.refl w).drew
  refine wp_region_any hm ?_
  have := wpAny_of_headE (Q' := lift Q P0 B w0) (g := l.toArray.size - (n + 1)) _ _ _ none _ _ inv0 (by simpa using (show n < l.length by omega)) (fun h => absurd rfl h) (hh.ext hx) (hf.ext hx) (fun listed fr' c a' w' hh' hf' hL => by
    have := wpAny_of_seq (md := .any) (Q' := lift Q P0 B w0) (l.drop (n + 1)) (n + 1) listed a' w' (fun j => by simp [List.getElem?_drop]) (by rw [hdl]; exact hL.1) (hL.2.on hh' hf')
    rwa [hdl] at this) HW
  rw [htl, show n + 1 + (l.toArray.size - (n + 1)) = l.toArray.size by omega] at this
  exact this
end
end Go.Proofs.Ytpiidgcljlalmaa
namespace Go.Proofs.Ytpiidgcljlalmaa
open Go.RowKit
open S43 (SS up assignS visit visits propS norm LInv Inv)
abbrev Lay.wt (X : Lay) (vT : Value) : Lay := { X with vT := vT }
abbrev Lay.ww (X : Lay) (wv : Int → Value) : Lay := { X with wv := wv }
abbrev sHead (s : SS) : SS := { s with head := s.head + 1 }
abbrev kPtr (X : Lay) (v1 : Value) : HObj := hKnow v1 (dP 1 false (dX (ptrS X)))
abbrev oLs (X : Lay) (N : Nat) : HObj := hRow X.vL 25 RRow ((List.range N).map X.u)
abbrev rowsN (X : Lay) (N : Nat) (l : List S43.Cl) : List HObj := gO (List.range N) X.u tI (fun j => l.getD j [])
abbrev oWv (X : Lay) (wv : Int → Value) : HObj := hG X.bw kvI is64 idV (pWat wv)
abbrev outO (X : Lay) (V : Nat) (s : SS) (N : Nat) (v1 : Value) (wv : Int → Value) (B : List HObj) : List HObj :=
  oS X V s :: oV X s :: oL X s :: oR X s :: oT X s :: oB X s :: kPtr X v1 :: oWv X wv :: oLs X N :: (rowsN X N s.list ++ (gO (lits V) wv tI (fun l => ints (s.watch l)) ++ B))
abbrev inO (X : Lay) (V : Nat) (s : SS) (N : Nat) (v1 vk : Value) (kept : List Nat) (w : Int) (wv : Int → Value) (l : List S43.Cl) (W : Int → List Nat) (B : List HObj) : List HObj :=
  oS X V s :: oV X s :: oL X s :: oR X s :: oT X s :: oB X s :: kPtr X v1 :: oWv X wv :: oLs X N :: hRow vk tI RI (ints kept) :: (rowsN X N l ++ (gO ((lits V).erase w) wv tI (fun l => ints (W l)) ++ B))
theorem mRow {ι : Type} {L : List ι} {u : ι → Value} {e : TypeId} {c : ι → List Int} {i : ι} {xs : List Int} {a0 a1 a2 a3 a4 a5 a6 a7 a8 a9 : HObj} {B : List HObj} (h : i ∈ L) (hc : c i = xs) : hRow (u i) e RI xs ∈ a0 :: a1 :: a2 :: a3 :: a4 :: a5 :: a6 :: a7 :: a8 :: a9 :: (gO L u e c ++ B) := hc ▸ mT10 (gO_mem h)
section
variable {X : Lay} {V : Nat} {s : SS} {N : Nat} {v1 vk : Value} {wv : Int → Value} {B : List HObj} {w : Int} {kept : List Nat}
theorem perm_begin (hN : s.list.length = N) : (full X V s ++ B).Perm (core X V s ++ (oW X :: oLs X N :: (rowsN X N s.list ++ (rowsW X V s ++ B)))) := by
  subst hN
  rw [fullE]
theorem perm_end (hN : s.list.length = N) : (outO X V s N v1 wv B).Perm (kPtr X v1 :: (full (X.ww wv) V s ++ B)) := by
  subst hN
  rw [fullE]
  exact (List.perm_middle (l₁ := [oS X V s, oV X s, oL X s, oR X s, oT X s, oB X s]))
theorem perm_take (hw : w ∈ lits V) : (outO X V s N v1 wv B).Perm (hRow (wv w) tI RI (ints (s.watch w)) :: (oS X V s :: oV X s :: oL X s :: oR X s :: oT X s :: oB X s :: kPtr X v1 :: oWv X wv :: oLs X N :: (rowsN X N s.list ++ (gO ((lits V).erase w) wv tI (fun l => ints (s.watch l)) ++ B)))) := by
  have := gO_out (A := oS X V s :: oV X s :: oL X s :: oR X s :: oT X s :: oB X s :: kPtr X v1 :: oWv X wv :: oLs X N :: rowsN X N s.list) (B := B) (u := wv) (e := tI) (c := fun l => ints (s.watch l)) hw
  simpa only [List.cons_append] using this
theorem perm_back {vk' : Value} {l : List S43.Cl} {W W' : Int → List Nat} {kk : List Nat} (hw : w ∈ lits V) (h1 : W' w = kk) (h2 : ∀ j, j ≠ w → W' j = W j) : (oS X V s :: oV X s :: oL X s :: oR X s :: oT X s :: oB X s :: kPtr X v1 :: oWv X (up wv w vk') :: oLs X N :: hRow vk' tI RI (ints kk) :: (rowsN X N l ++ (gO ((lits V).erase w) wv tI (fun l => ints (W l)) ++ B))).Perm
    (oS X V s :: oV X s :: oL X s :: oR X s :: oT X s :: oB X s :: kPtr X v1 :: oWv X (up wv w vk') :: oLs X N :: (rowsN X N l ++ (gO (lits V) (up wv w vk') tI (fun l => ints (W' l)) ++ B))) := by
  subst h1
  have h3 := gO_in (A := rowsN X N l) (B := B) (u := wv) (u' := up wv w vk') (e := tI) (c := fun l => ints (W l)) (c' := fun l => ints (W' l)) (lits_nodup V) hw (fun j hj => S43.up_ne hj) (fun j hj => by rw [h2 j hj])
  rw [S43.up_eq] at h3
  exact h3.cons _ |>.cons _ |>.cons _ |>.cons _ |>.cons _ |>.cons _ |>.cons _ |>.cons _ |>.cons _
theorem perm_idx {k : Nat} {l : List S43.Cl} {W : Int → List Nat} {xs : List Int} (hk : k ∈ List.range N) (hx : l.getD k [] = xs) : (inO X V s N v1 vk kept w wv l W B).Perm ((hRow (X.u k) tI RI xs :: [kPtr X v1, oS X V s, oV X s]) ++ (oL X s :: oR X s :: oT X s :: oB X s :: oWv X wv :: oLs X N :: hRow vk tI RI (ints kept) :: (gO ((List.range N).erase k) X.u tI (fun j => l.getD j []) ++ (gO ((lits V).erase w) wv tI (fun l => ints (W l)) ++ B)))) := by
  subst hx
  have h1 := gO_out (A := oS X V s :: oV X s :: oL X s :: oR X s :: oT X s :: oB X s :: kPtr X v1 :: oWv X wv :: oLs X N :: [hRow vk tI RI (ints kept)]) (B := gO ((lits V).erase w) wv tI (fun l => ints (W l)) ++ B) (u := X.u) (e := tI) (c := fun j => l.getD j []) hk
  simp only [List.cons_append, List.nil_append] at h1 ⊢
  refine h1.trans (List.Perm.cons _ ?_)
  exact List.perm_middle (l₁ := [oS X V s, oV X s, oL X s, oR X s, oT X s, oB X s])
end
section
variable {P : Program} {ops : Array Oper} {hp : List HObj} {o : Oper} {fr : List Dat} {Q : Post} {c : Code}
theorem SW.gSet2 {ι : Type} [DecidableEq ι] {L : List ι} {u : ι → Value} {e : TypeId} {c c' : ι → List Int} {i : ι} {A B : List HObj} {D : Unit → Dat} {xs ys : List Int} (hn : L.Nodup) (hi : i ∈ L) (hx : c i = xs) (hy : c' i = ys) (hc : ∀ j, j ≠ i → c' j = c j) (k : ∀ q : List HObj, SW P ops (hRow (u i) e RI xs :: q) (fun _ : Unit => hRow (u i) e RI ys :: q) D o fr) :
    SW P ops (A ++ (gO L u e c ++ B)) (fun _ : Unit => A ++ (gO L u e c' ++ B)) D o fr := SW.gSet hn hi hc (by rw [hx, hy]; exact k)
theorem SW.gAt2 {ι : Type} [DecidableEq ι] {L : List ι} {u : ι → Value} {e : TypeId} {c c' : ι → List Int} {i : ι} {A B : List HObj} {D : Value → Dat} {xs ys : List Int} (hn : L.Nodup) (hi : i ∈ L) (hx : c i = xs) (hy : c' i = ys) (hc : ∀ j, j ≠ i → c' j = c j) (k : ∀ q : List HObj, SW P ops (hRow (u i) e RI xs :: q) (fun v' : Value => hRow v' e RI ys :: q) D o fr) :
    SW P ops (A ++ (gO L u e c ++ B)) (fun v' => A ++ (gO L (up u i v') e c' ++ B)) D o fr := SW.gAt hn hi hc (by rw [hx, hy]; exact k)
theorem WC.takeRow {X : Lay} {V : Nat} {s : SS} {N : Nat} {v1 : Value} {wv : Int → Value} {B : List HObj} {w : Int} {ks : List Nat} (t : Nat) (ht : fr[t]? = some (dX (wv w))) (hw : w ∈ lits V) (hks : s.watch w = ks) (h : WC P Q c (fr.set t (dS Ints (ints ks))) (inO X V s N v1 nilV [] w wv s.list s.watch B)) : WC P Q c fr (outO X V s N v1 wv B) := by
  subst hks
  refine WC.perm (perm_take hw) (WC.keep1 ht ?_)
  refine WC.nilRow tI RI ?_
  exact WC.perm (List.perm_middle (l₁ := [oS X V s, oV X s, oL X s, oR X s, oT X s, oB X s, kPtr X v1, oWv X wv, oLs X N])).symm h
theorem ArgsX.one {x : Operand} {v : Value} (h : OpD fr x (dX v)) : ArgsX fr [x] [v] := ⟨rfl, fun i y u h1 h2 => by
  match i, h1, h2 with
  | 0, h1, h2 => cases h1; cases h2; exact h⟩
theorem CallC.front {f : FuncId} {ds : List Dat} {hp1 : List HObj} {D : Dat} (ob : HObj) (h : CallC P f ds hp1 fun d hp2 => d = D ∧ hp2 = hp1) : CallC P f ds (ob :: hp1) fun d hp2 => d = D ∧ hp2 = ob :: hp1 := ⟨fun P0 B w0 hp vs W hh hl hv => by
  have hpm : ((ob :: hp1) ++ hp).Perm (hp1 ++ (ob :: hp)) := List.perm_middle.symm
  obtain ⟨hh1, hI⟩ := hh.perm hpm
  refine Calls.mono (h.out P0 B w0 (ob :: hp) vs W hh1 hl fun i d hd => d.weak (hv i d hd) fun k hk => (hI k).1 hk) fun e W' ⟨v, d, hp2, he, hk, hh2, hd⟩ => ?_
  obtain ⟨rfl, rfl⟩ := hk
  obtain ⟨hh3, hI3⟩ := hh2.perm hpm.symm
  exact ⟨v, _, _, he, ⟨rfl, rfl⟩, hh3, Dat.weak _ hd fun k hk => (hI3 k).1 hk⟩⟩
theorem SY.valH {ops : Array Oper} {dst : Option Tmp} {ty : TypeId} {ps : String} {af : Array Edge} {g : Option (Nat × Bool)} {b : Nat} {x y : Operand} {val : Int → Bool} {l : Int} {u : Bool} (hu : val l = u) (hx : OpD fr x (dX (.map (some b)))) (hm : hG b kvI is64 vvB (pVal val) ∈ hp) (hy : OpD fr y (dI l)) (ho : is64 l) :
    SY Try.prog ops hp { dst := dst, op := .lookup 76 x y false, type := ty, pos := ps, after := af, guard := g } fr (dB u) := hu ▸ SY.valG hx hm hy ho
theorem WL.callP {rest : List Oper} {dst : Option Tmp} {ty : TypeId} {ps : String} {af : Array Edge} {f : FuncId} {caps : List Value} {cl : Operand} {args : Array Operand} {ats : Array TypeId} {ds1 : List Dat} {hp1 hq : List HObj} {K : Dat → List HObj → Prop} (hF : CallC P f (ds1 ++ caps.map dX) hp1 K) (he : Enters P f) (hc : OpD fr cl (dX (.func (.func f) #[] caps.toArray))) (ha : ArgsD fr args.toList ds1) (hpm : hp.Perm (hp1 ++ hq))
    (hK : ∀ d' hp2, K d' hp2 → WL P ops Q rest (setD fr dst d') (hp2 ++ hq)) :
    WL P ops Q ({ dst := dst, op := .call { callee := .value cl, args := args, argTypes := ats }, type := ty, pos := ps, after := af, guard := none } :: rest) fr hp := WL.perm hpm (WL.callC hF he hc ha hK)
structure Halt (p : Prop) : Prop where
  go : p
theorem WC.joinR {x y : Code} {l : Array Oper} {b : Bool} (id : Nat) (ups : List (Nat × Dat)) (H : List HObj) (h1 : Halt (WC P (JoinQ (upds fr ups) H) (.seq (.region id l b) x) fr hp)) (h2 : Halt (WC P Q y (upds fr ups) H)) : WC P Q (.seq (.seq (.region id l b) x) y) fr hp :=
  WC.seq (h1.go.mono fun e f q ⟨he, hq, hl⟩ => by
    subst he
    subst hq
    exact WC.weakF hl h2.go)
theorem WC.only (id : Nat) {l : Array Oper} {b : Bool} (h : WC P Q (.region id l b) fr hp) : WC P Q (.region id l b) fr hp := h
end
end Go.Proofs.Ytpiidgcljlalmaa
