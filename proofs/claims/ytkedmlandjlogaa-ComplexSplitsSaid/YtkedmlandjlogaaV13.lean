/-
  Part 13 of the texts that the claims of this seat lean on: walks of the program's functions by contracts over symbolic frames, and plain laws of what they compute. No condition.
-/
import Derived.Test.YtkedmlandjlogaaV11
import Derived.Test.YtkedmlandjlogaaV12
set_option linter.unusedVariables false
set_option linter.unusedSimpArgs false
set_option linter.unusedSectionVars false
namespace Go.Proofs.Ytkedmlandjlogaa
open Go.RowKit
def chainB2 (md : Region.Mode) (ops : Array Oper) (n : Nat) : Bool :=
  (List.range ops.size).all fun t => decide (t ≤ n) || (List.range ops.size).any fun s => decide (n ≤ s) && Region.waitsFor md ops t s
theorem tail_waits2 {md : Region.Mode} {ops : Array Oper} {n : Nat} {listed : Array Bool} (hs : Region.sinkB md ops n = true) (hc : chainB2 md ops n = true) (hn : n < ops.size) (inv : HeadInv md ops n listed) :
    ∀ (d i : Nat), n - i = d → i < n → listed.getD i true = false → ∀ t, n ≤ t → t ∉ Region.ready md ops listed := by
  intro d
  induction d using Nat.strongRecOn with
  | _ d ih =>
    intro i hd hi hun t ht hr
    obtain ⟨_, ot, hot, hall⟩ := mem_ready.1 hr
    have htlt : t < ops.size := (Array.getElem?_eq_some_iff.1 hot).1
    by_cases htn : t = n
    · subst htn
      have h1 := List.all_eq_true.1 hs i (List.mem_range.2 hi)
      obtain ⟨j, hj, hj2⟩ := List.any_eq_true.1 h1
      simp only [Bool.and_eq_true, decide_eq_true_eq] at hj2
      obtain ⟨oj, hoj, e, he, hb, hon⟩ := Region.waitsFor_spec hj2.2
      have hjle : j ≤ t := by have := List.mem_range.1 hj; omega
      by_cases hjt : j = t
      · subst hjt
        have : oj = ot := Option.some.inj (hoj.symm.trans hot)
        subst this
        have h2 := hall e he hb
        rw [hon, getD_both hun] at h2
        cases h2
      · cases hl : listed.getD j false with
        | true =>
          have h2 := inv.closed j oj hoj hl e he hb
          rw [hon, getD_both hun] at h2
          cases h2
        | false =>
          have hjs : j < listed.size := by rw [inv.size]; omega
          exact ih (t - j) (by omega) j rfl (by omega) (getD_in hjs hl) t (Nat.le_refl _) hr
    · have h1 := List.all_eq_true.1 hc t (List.mem_range.2 htlt)
      simp only [Bool.or_eq_true, decide_eq_true_eq] at h1
      rcases h1 with h1 | h1
      · omega
      · obtain ⟨s, hsr, hsw⟩ := List.any_eq_true.1 h1
        simp only [Bool.and_eq_true, decide_eq_true_eq] at hsw
        obtain ⟨o', ho', e, he, hb, hon⟩ := Region.waitsFor_spec hsw.2
        have : o' = ot := Option.some.inj (ho'.symm.trans hot)
        subst this
        have h2 := hall e he hb
        rw [hon, getD_both (inv.tail s hsw.1 (List.mem_range.1 hsr))] at h2
        cases h2
section
variable {P : Program} {ops : Array Oper} {md : Region.Mode} {fr fr' : List Dat} {hp : List HObj} {C : List HObj → Prop}
def sOpM (P : Program) (ops : Array Oper) (C : List HObj → Prop) (i : Nat) (K : List Dat → List HObj → Prop) (fr : List Dat) (hp : List HObj) : Prop :=
  ∃ o, ops[i]? = some o ∧ ((∃ d, (∀ hp', C hp' → SYG P ops hp' o fr d) ∧ K (setD fr o.dst d) hp) ∨
    ∃ (β : Type) (H : β → List HObj) (D : β → Dat), SW P ops hp H D o fr ∧ (∀ x, C (H x)) ∧ ∀ x, K (setD fr o.dst (D x)) (H x))
def wpAnyM (P : Program) (md : Region.Mode) (ops : Array Oper) (C : List HObj → Prop) (n : Nat) (L : Array Bool → List Dat → List HObj → Prop) : Nat → Array Bool → List Dat → List HObj → Prop
  | 0, listed, fr, hp => L listed fr hp
  | f + 1, listed, fr, hp =>
    Region.ready md ops listed ≠ [] ∧ ∀ i ∈ Region.ready md ops listed, i < n ∧ sOpM P ops C i (wpAnyM P md ops C n L f (listed.setIfInBounds i true)) fr hp
theorem wpAny_of_headM {n g : Nat} {L : Array Bool → List Dat → List HObj → Prop} {Q' : Exit → Act → World → Prop} {P0 : Nat → Prop} {B : Nat} {w0 : World} : ∀ (f : Nat) (listed : Array Bool) (fr : List Dat) (hp : List HObj) (a : Act) (w : World), C hp → Hp P0 B w0 hp w → Fr (Imm P0 B hp) w a fr →
    (∀ listed fr hp a w', Hp P0 B w0 hp w' → Fr (Imm P0 B hp) w' a fr → L listed fr hp → wpAny P md ops Q' g listed a w') → wpAnyM P md ops C n L f listed fr hp → wpAny P md ops Q' (f + g) listed a w
  | 0, listed, fr, hp, a, w, _, hh, hf, hL, h => by rw [Nat.zero_add]; exact hL _ _ _ _ _ hh hf h
  | f + 1, listed, fr, hp, a, w, hc, hh, hf, hL, h => by
    rw [show f + 1 + g = (f + g) + 1 by omega]
    refine ⟨fun h0 => absurd h0 h.1, fun i hi => ?_⟩
    obtain ⟨o, ho, h1⟩ := (h.2 i hi).2
    unfold wpOp
    simp only [ho]
    rcases h1 with ⟨d, hs, hk⟩ | ⟨β, H, D, hw, hC, hk⟩
    · have := (hs hp hc).step (Q := Q') hh hf (K := wpAny P md ops Q' (f + g) (listed.setIfInBounds i true)) fun a' w' e hf' => wpAny_of_headM f _ _ hp _ _ hc (hh.ext e) hf' hL hk
      split
      · rename_i hw; rw [if_pos hw] at this; exact .inl this
      · rename_i hw; rw [if_neg hw] at this; exact this
    · have hwant : Region.wanted o (yielded ops a.tmps) = true := by simp [Region.wanted, hw.guard]
      rw [if_pos hwant]
      exact .inl (hw.out hh (hf.on _) _ _ fun x v w' hh' hrd hd => wpAny_of_headM f _ _ (H x) _ _ (hC x) hh' (Fr.put (hf.mono fun d u hu => hrd d u hu) hd) hL (hk x))
theorem wpAnyM_first {n i : Nat} {oi : Oper} {di : Dat} {L : Array Bool → List Dat → List HObj → Prop} (hi : ops[i]? = some oi)
    (hs : Region.sinkB md ops n = true) (hc : chainB2 md ops n = true) (hn : n < ops.size) (hin : i < n)
    (hdone : ∀ listed a c, L listed a c → ∀ j ∈ Region.ready md ops listed, n ≤ j) :
    ∀ (f : Nat) (listed : Array Bool) (fr : List Dat) (hp : List HObj), HeadInv md ops n listed →
      (∀ j oj, ops[j]? = some oj → j ≠ i → listed.getD j true = false → (∀ e ∈ oj.after, Region.binds md e = true → e.on ≠ i) → oi.apart ops oj = true) →
      i ∈ Region.ready md ops listed → (∀ hp', C hp' → SYG P ops hp' oi fr di) →
      wpAnyM P md ops C n L f (listed.setIfInBounds i true) (setD fr oi.dst di) hp → wpAnyM P md ops C n L (f + 1) listed fr hp := by
  intro f
  induction f with
  | zero =>
    intro listed fr hp inv _ hr hy H
    have hun := (mem_ready.1 hr).1
    refine ⟨fun h => (by rw [h] at hr; cases hr), fun j hj => ?_⟩
    have hjn : j < n := by
      rcases Nat.lt_or_ge j n with h | h
      · exact h
      · exact absurd hj (tail_waits2 hs hc hn inv _ i rfl hin hun j h)
    refine ⟨hjn, ?_⟩
    by_cases hji : j = i
    · subst hji; exact ⟨oi, hi, .inl ⟨di, hy, H⟩⟩
    · have := hdone _ _ _ H j (ready_mono hj hji)
      omega
  | succ f ih =>
    intro listed fr hp inv hfree hr hy H
    have hun := (mem_ready.1 hr).1
    refine ⟨fun h => (by rw [h] at hr; cases hr), fun j hj => ?_⟩
    have hjn : j < n := by
      rcases Nat.lt_or_ge j n with h | h
      · exact h
      · exact absurd hj (tail_waits2 hs hc hn inv _ i rfl hin hun j h)
    refine ⟨hjn, ?_⟩
    by_cases hji : j = i
    · subst hji; exact ⟨oi, hi, .inl ⟨di, hy, H⟩⟩
    · obtain ⟨oj', hoj', h1⟩ := (H.2 j (ready_mono hj hji)).2
      obtain ⟨hjun, oj, hoj, hall⟩ := mem_ready.1 hj
      have hoo : oj = oj' := by rw [hoj] at hoj'; simpa using hoj'
      subst hoo
      have hnot : ∀ e ∈ oj.after, Region.binds md e = true → e.on ≠ i := fun e he hb heq => by
        have h1 := hall e he hb
        rw [heq, getD_both hun] at h1
        cases h1
      obtain ⟨a1, a2, a3⟩ := Oper.apart_spec (hfree j oj hoj hji hjun hnot)
      have hfree' : ∀ k ok, ops[k]? = some ok → k ≠ i → (listed.setIfInBounds j true).getD k true = false →
          (∀ e ∈ ok.after, Region.binds md e = true → e.on ≠ i) → oi.apart ops ok = true := fun k ok hk hki hun hno => by
        refine hfree k ok hk hki ?_ hno
        by_cases hjk : j = k
        · subst hjk; exact hjun
        · rw [getD_set_ne true hjk] at hun; exact hun
      have key : ∀ (d : Dat) (hp' : List HObj), wpAnyM P md ops C n L f ((listed.setIfInBounds i true).setIfInBounds j true) (setD (setD fr oi.dst di) oj.dst d) hp' →
          wpAnyM P md ops C n L (f + 1) (listed.setIfInBounds j true) (setD fr oj.dst d) hp' := fun d hp' hk => by
        refine ih (listed.setIfInBounds j true) (setD fr oj.dst d) hp' (inv.set hj hjn) hfree' (ready_mono hr (Ne.symm hji)) (fun c hc => (hy c hc).same (setD_length _ _ _) fun t ht => setD_other fun e => a3 t e ht) ?_
        rw [Array.setIfInBounds_comm _ _ hji, ← setD_comm fr di d a2]
        exact hk
      refine ⟨oj, hoj, ?_⟩
      rcases h1 with ⟨d, hs', hk⟩ | ⟨β, H', D, hw, hC, hk⟩
      · exact .inl ⟨d, fun c hc => (hs' c hc).same (setD_length _ _ _).symm fun t ht => (setD_other fun e => a1 t e ht).symm, key _ _ hk⟩
      · exact .inr ⟨β, H', D, hw.same (setD_length _ _ _).symm fun t ht => (setD_other fun e => a1 t e ht).symm, hC, fun x => key _ _ (hk x)⟩
def ordB (md : Region.Mode) (ops : Array Oper) (n : Nat) : List (Nat × Bool) → Array Bool → Bool
  | [], listed => (Region.ready md ops listed).all fun j => decide (n ≤ j)
  | (i, false) :: r, listed => decide (i < n) && (Region.ready md ops listed).contains i && Region.free md ops listed i && ordB md ops n r (listed.setIfInBounds i true)
  | (i, true) :: r, listed => decide (i < n) && decide (Region.ready md ops listed = [i]) && ordB md ops n r (listed.setIfInBounds i true)
inductive WM (P : Program) (ops : Array Oper) (C : List HObj → Prop) (Q : List Dat → List HObj → Prop) : List (Nat × Bool) → List Dat → List HObj → Prop
  | nil {fr : List Dat} {hp : List HObj} : Q fr hp → WM P ops C Q [] fr hp
  | read {i : Nat} {o : Oper} {r : List (Nat × Bool)} {fr : List Dat} {hp : List HObj} {d : Dat} : ops[i]? = some o → (∀ hp', C hp' → SYG P ops hp' o fr d) → WM P ops C Q r (setD fr o.dst d) hp → WM P ops C Q ((i, false) :: r) fr hp
  | write {i : Nat} {o : Oper} {r : List (Nat × Bool)} {fr : List Dat} {hp : List HObj} {β : Type} {H : β → List HObj} {D : β → Dat} : ops[i]? = some o → SW P ops hp H D o fr → (∀ x, C (H x)) → (∀ x, WM P ops C Q r (setD fr o.dst (D x)) (H x)) → WM P ops C Q ((i, true) :: r) fr hp
theorem wpAnyM_ord {n : Nat} {Q : List Dat → List HObj → Prop} (hs : Region.sinkB md ops n = true) (hc : chainB2 md ops n = true) (hn : n < ops.size) :
    ∀ (l : List (Nat × Bool)) (listed : Array Bool) (fr : List Dat) (hp : List HObj), HeadInv md ops n listed → ordB md ops n l listed = true → WM P ops C Q l fr hp →
    wpAnyM P md ops C n (fun listed' f p => (∀ j ∈ Region.ready md ops listed', n ≤ j) ∧ listed' = l.foldl (fun s p => s.setIfInBounds p.1 true) listed ∧ Q f p) l.length listed fr hp
  | [], listed, fr, hp, _, hB, h => by
    cases h
    rename_i h
    refine ⟨fun j hj => ?_, rfl, h⟩
    simp only [ordB, List.all_eq_true, decide_eq_true_eq] at hB
    exact hB j hj
  | (i, false) :: r, listed, fr, hp, inv, hB, h => by
    cases h
    rename_i o d ho hy hk
    simp only [ordB, Bool.and_eq_true, decide_eq_true_eq] at hB
    obtain ⟨⟨⟨hin, hr⟩, hf⟩, hB'⟩ := hB
    have hr' : i ∈ Region.ready md ops listed := by simpa using hr
    exact wpAnyM_first ho hs hc hn hin (fun _ _ _ hL => hL.1) r.length listed fr hp inv (Region.free_spec ho hf) hr' hy
      (wpAnyM_ord hs hc hn r _ _ _ (inv.set hr' hin) hB' hk)
  | (i, true) :: r, listed, fr, hp, inv, hB, h => by
    simp only [ordB, Bool.and_eq_true, decide_eq_true_eq] at hB
    obtain ⟨⟨hin, hr⟩, hB'⟩ := hB
    have hr' : i ∈ Region.ready md ops listed := by rw [hr]; simp
    cases h with
    | write ho hw hC hk =>
      refine ⟨fun h0 => (by rw [hr] at h0; cases h0), fun j hj => ?_⟩
      rw [hr] at hj
      cases List.mem_singleton.1 hj
      exact ⟨hin, _, ho, .inr ⟨_, _, _, hw, hC, fun x => wpAnyM_ord hs hc hn r _ _ _ (inv.set hr' hin) hB' (hk x)⟩⟩
theorem WC.drawM {id : Nat} {l : List Oper} {Q : Post} (C : List HObj → Prop) (n m : Nat) (ord : List (Nat × Bool)) (S : List Bool) (hm : P.follows .mixedOrders = true)
    (hB : (decide (n < l.toArray.size) && Region.sinkB .any l.toArray n && chainB2 .any l.toArray n && ordB .any l.toArray n ord (Array.replicate l.toArray.size false)) = true) (hS : ord.foldl (fun s p => s.setIfInBounds p.1 true) (Array.replicate l.toArray.size false) = S.toArray) (hlen : l.length = ord.length + m) (hC : C hp)
    (h : WM P l.toArray C (fun f p => WA P l.toArray Q m S f p) ord fr hp) : WC P Q (.region id l.toArray true) fr hp := by
  refine WC.of fun P0 B w0 w a hh hf => ?_
  simp only [Bool.and_eq_true, decide_eq_true_eq] at hB
  obtain ⟨⟨⟨hn, hs⟩, hc⟩, hord⟩ := hB
  have inv0 : HeadInv .any l.toArray n (Array.replicate l.toArray.size false) :=
    ⟨by simp, fun j oj _ hl => (by rw [getD_replicate_false] at hl; cases hl), fun t _ ht => getD_in (by simpa using ht) (getD_replicate_false _ _)⟩
  have HW := wpAnyM_ord hs hc hn ord _ fr hp inv0 hord h
  have hx : Ext w { w with drawn := w.drawn + 1 } := (Ext.refl w).drew
  refine wp_region_any hm ?_
  have := wpAny_of_headM (Q' := lift Q P0 B w0) (g := m) _ _ _ hp _ _ hC (hh.ext hx) (hf.ext hx) (fun listed' fr' hp' a' w' hh' hf' hL => by
    rw [hL.2.1, hS]
    exact hL.2.2.out _ _ _ _ _ hh' hf') HW
  rw [show l.toArray.size = ord.length + m by simpa using hlen]
  rw [show (l.toArray.size) = ord.length + m by simpa using hlen] at this
  exact this
theorem WM.readL {l : List Oper} {Q : List Dat → List HObj → Prop} {i : Nat} {o : Oper} {r : List (Nat × Bool)} {d : Dat} (ho : l[i]? = some o) (h : ∀ hp', C hp' → SYG P l.toArray hp' o fr d) (k : WM P l.toArray C Q r (setD fr o.dst d) hp) : WM P l.toArray C Q ((i, false) :: r) fr hp := WM.read (by simpa using ho) h k
theorem WM.writeL {l : List Oper} {Q : List Dat → List HObj → Prop} {i : Nat} {o : Oper} {r : List (Nat × Bool)} {β : Type} {H : β → List HObj} {D : β → Dat} (ho : l[i]? = some o) (h : SW P l.toArray hp H D o fr) (hC : ∀ x, C (H x)) (k : ∀ x, WM P l.toArray C Q r (setD fr o.dst (D x)) (H x)) : WM P l.toArray C Q ((i, true) :: r) fr hp := WM.write (by simpa using ho) h hC k
theorem WM.id {Q : List Dat → List HObj → Prop} {r : List (Nat × Bool)} (h : WM P ops C Q r fr hp) : WM P ops C Q r fr hp := h
end
end Go.Proofs.Ytkedmlandjlogaa
namespace Go.Proofs.Ytkedmlandjlogaa
open Go.RowKit
section
variable {P : Program} {ops : Array Oper} {md : Region.Mode} {fr fr' : List Dat} {hp : List HObj} {C : List HObj → Prop}
def rdB (md : Region.Mode) (ops : Array Oper) (n : Nat) : List Nat → Array Bool → Bool
  | [], _ => true
  | i :: r, listed => decide (i < n) && (Region.ready md ops listed).contains i && Region.free md ops listed i && rdB md ops n r (listed.setIfInBounds i true)
inductive WRd (P : Program) (ops : Array Oper) (C : List HObj → Prop) (Q : List Dat → Prop) : List Nat → List Dat → Prop
  | nil {fr : List Dat} : Q fr → WRd P ops C Q [] fr
  | read {i : Nat} {o : Oper} {r : List Nat} {fr : List Dat} {d : Dat} : ops[i]? = some o → (∀ hp', C hp' → SYG P ops hp' o fr d) → WRd P ops C Q r (setD fr o.dst d) → WRd P ops C Q (i :: r) fr
theorem wpAnyM_rd {n f0 : Nat} {L : Array Bool → List Dat → List HObj → Prop} {Q : List Dat → Prop} (hs : Region.sinkB md ops n = true) (hc : chainB2 md ops n = true) (hn : n < ops.size) (hdone : ∀ listed a c, L listed a c → ∀ j ∈ Region.ready md ops listed, n ≤ j) :
    ∀ (l : List Nat) (listed : Array Bool) (fr : List Dat), HeadInv md ops n listed → rdB md ops n l listed = true → WRd P ops C Q l fr → (∀ fr', Q fr' → HeadInv md ops n (l.foldl (fun s i => s.setIfInBounds i true) listed) → wpAnyM P md ops C n L f0 (l.foldl (fun s i => s.setIfInBounds i true) listed) fr' hp) →
    wpAnyM P md ops C n L (f0 + l.length) listed fr hp
  | [], listed, fr, inv, _, h, hk => by
    cases h
    rename_i h
    exact hk _ h inv
  | i :: r, listed, fr, inv, hB, h, hk => by
    cases h
    rename_i o d ho hy hr
    simp only [rdB, Bool.and_eq_true, decide_eq_true_eq] at hB
    obtain ⟨⟨⟨hin, hrd⟩, hf⟩, hB'⟩ := hB
    have hr' : i ∈ Region.ready md ops listed := by simpa using hrd
    have := wpAnyM_first ho hs hc hn hin hdone (f0 + r.length) listed fr hp inv (Region.free_spec ho hf) hr' hy (wpAnyM_rd hs hc hn hdone r _ _ (inv.set hr' hin) hB' hr hk)
    rw [List.length_cons, ← Nat.add_assoc]
    exact this
structure W2 (P : Program) (ops : Array Oper) (C : List HObj → Prop) (R : List Dat → List HObj → Prop) (i j : Nat) (fr : List Dat) (hp : List HObj) : Prop where
  out : ∃ oi oj, ops[i]? = some oi ∧ ops[j]? = some oj ∧ ∃ (β : Type) (H : β → List HObj) (D : β → Dat), SW P ops hp H D oi fr ∧ (∀ x, C (H x)) ∧ ∀ x, ∃ (γ : Type) (H2 : γ → List HObj) (D2 : γ → Dat), SW P ops (H x) H2 D2 oj (setD fr oi.dst (D x)) ∧ (∀ y, C (H2 y)) ∧ ∀ y, R (setD (setD fr oi.dst (D x)) oj.dst (D2 y)) (H2 y)
theorem W2.mk' {R : List Dat → List HObj → Prop} {i j : Nat} {oi oj : Oper} {l : List Oper} (hi : l[i]? = some oi) (hj : l[j]? = some oj) {β : Type} {H : β → List HObj} {D : β → Dat} (h : SW P l.toArray hp H D oi fr) (hC : ∀ x, C (H x)) {γ : Type} {H2 : β → γ → List HObj} {D2 : β → γ → Dat}
    (h2 : ∀ x, SW P l.toArray (H x) (H2 x) (D2 x) oj (setD fr oi.dst (D x))) (hC2 : ∀ x y, C (H2 x y)) (k : ∀ x y, R (setD (setD fr oi.dst (D x)) oj.dst (D2 x y)) (H2 x y)) : W2 P l.toArray C R i j fr hp :=
  ⟨oi, oj, by simpa using hi, by simpa using hj, β, H, D, h, hC, fun x => ⟨γ, H2 x, D2 x, h2 x, hC2 x, k x⟩⟩
theorem wpAnyM_w2 {n i j : Nat} {R : List Dat → List HObj → Prop} {listed : Array Bool} {S : Array Bool} (hi : i < n) (hj : j < n) (hr : Region.ready md ops listed = [i, j]) (hri : Region.ready md ops (listed.setIfInBounds i true) = [j]) (hrj : Region.ready md ops (listed.setIfInBounds j true) = [i])
    (hS : (listed.setIfInBounds i true).setIfInBounds j true = S) (hS' : (listed.setIfInBounds j true).setIfInBounds i true = S) (hfin : ∀ k ∈ Region.ready md ops S, n ≤ k) (h1 : W2 P ops C R i j fr hp) (h2 : W2 P ops C R j i fr hp) :
    wpAnyM P md ops C n (fun listed' f p => (∀ k ∈ Region.ready md ops listed', n ≤ k) ∧ listed' = S ∧ R f p) 2 listed fr hp := by
  refine ⟨fun h0 => (by rw [hr] at h0; cases h0), fun k hk => ?_⟩
  rw [hr] at hk
  rcases List.mem_cons.1 hk with rfl | hk
  · obtain ⟨oi, oj, e1, e2, β, H, D, w1, c1, k1⟩ := h1.out
    refine ⟨hi, oi, e1, .inr ⟨β, H, D, w1, c1, fun x => ?_⟩⟩
    obtain ⟨γ, H2, D2, w2, c2, k2⟩ := k1 x
    refine ⟨fun h0 => (by rw [hri] at h0; cases h0), fun m hm => ?_⟩
    rw [hri] at hm
    cases List.mem_singleton.1 hm
    exact ⟨hj, oj, e2, .inr ⟨γ, H2, D2, w2, c2, fun y => ⟨by rw [hS]; exact hfin, hS, k2 y⟩⟩⟩
  · cases List.mem_singleton.1 hk
    obtain ⟨oi, oj, e1, e2, β, H, D, w1, c1, k1⟩ := h2.out
    refine ⟨hj, oi, e1, .inr ⟨β, H, D, w1, c1, fun x => ?_⟩⟩
    obtain ⟨γ, H2, D2, w2, c2, k2⟩ := k1 x
    refine ⟨fun h0 => (by rw [hrj] at h0; cases h0), fun m hm => ?_⟩
    rw [hrj] at hm
    cases List.mem_singleton.1 hm
    exact ⟨hi, oj, e2, .inr ⟨γ, H2, D2, w2, c2, fun y => ⟨by rw [hS']; exact hfin, hS', k2 y⟩⟩⟩
def drawB2 (md : Region.Mode) (ops : Array Oper) (n : Nat) (rds : List Nat) (i j : Nat) : Bool :=
  let s := rds.foldl (fun s i => s.setIfInBounds i true) (Array.replicate ops.size false)
  decide (n < ops.size) && Region.sinkB md ops n && chainB2 md ops n && rdB md ops n rds (Array.replicate ops.size false) && decide (i < n) && decide (j < n) && decide (Region.ready md ops s = [i, j]) && decide (Region.ready md ops (s.setIfInBounds i true) = [j]) && decide (Region.ready md ops (s.setIfInBounds j true) = [i]) &&
    (Region.ready md ops ((s.setIfInBounds i true).setIfInBounds j true)).all (fun k => decide (n ≤ k)) && decide (i ≠ j)
theorem WC.draw2 {id : Nat} {l : List Oper} {Q : Post} (C : List HObj → Prop) (n m : Nat) (rds : List Nat) (i j : Nat) (S : List Bool) (hm : P.follows .mixedOrders = true)
    (hB : drawB2 .any l.toArray n rds i j = true) (hS : ((rds.foldl (fun s i => s.setIfInBounds i true) (Array.replicate l.toArray.size false)).setIfInBounds i true).setIfInBounds j true = S.toArray) (hlen : l.length = rds.length + 2 + m) (hC : C hp)
    (h : WRd P l.toArray C (fun f => W2 P l.toArray C (fun f p => WA P l.toArray Q m S f p) i j f hp ∧ W2 P l.toArray C (fun f p => WA P l.toArray Q m S f p) j i f hp) rds fr) : WC P Q (.region id l.toArray true) fr hp := by
  refine WC.of fun P0 B w0 w a hh hf => ?_
  simp only [drawB2, Bool.and_eq_true, decide_eq_true_eq, List.all_eq_true] at hB
  obtain ⟨⟨⟨⟨⟨⟨⟨⟨⟨⟨hn, hs⟩, hc⟩, hord⟩, hin⟩, hjn⟩, hr⟩, hri⟩, hrj⟩, hfin⟩, hij⟩ := hB
  have inv0 : HeadInv .any l.toArray n (Array.replicate l.toArray.size false) :=
    ⟨by simp, fun j oj _ hl => (by rw [getD_replicate_false] at hl; cases hl), fun t _ ht => getD_in (by simpa using ht) (getD_replicate_false _ _)⟩
  have HW := wpAnyM_rd (f0 := 2) (hp := hp) (L := fun listed' f p => (∀ k ∈ Region.ready .any l.toArray listed', n ≤ k) ∧ listed' = S.toArray ∧ WA P l.toArray Q m S f p) hs hc hn (fun _ _ _ hL => hL.1) rds _ fr inv0 hord h fun fr' hq _ =>
    wpAnyM_w2 hin hjn hr hri hrj hS (by rw [Array.setIfInBounds_comm _ _ (Ne.symm hij)]; exact hS) (by rw [← hS]; exact hfin) hq.1 hq.2
  have hx : Ext w { w with drawn := w.drawn + 1 } := (Ext.refl w).drew
  refine wp_region_any hm ?_
  have := wpAny_of_headM (Q' := lift Q P0 B w0) (g := m) _ _ _ hp _ _ hC (hh.ext hx) (hf.ext hx) (fun listed' fr' hp' a' w' hh' hf' hL => by
    rw [hL.2.1]
    exact hL.2.2.out _ _ _ _ _ hh' hf') HW
  rw [show l.toArray.size = 2 + rds.length + m by simp; omega]
  rw [show (l.toArray.size) = 2 + rds.length + m by simp; omega] at this
  exact this
theorem WRd.readL {l : List Oper} {Q : List Dat → Prop} {i : Nat} {o : Oper} {r : List Nat} {d : Dat} (ho : l[i]? = some o) (h : ∀ hp', C hp' → SYG P l.toArray hp' o fr d) (k : WRd P l.toArray C Q r (setD fr o.dst d)) : WRd P l.toArray C Q (i :: r) fr := WRd.read (by simpa using ho) h k
theorem W2.id {R : List Dat → List HObj → Prop} {i j : Nat} (h : W2 P ops C R i j fr hp) : W2 P ops C R i j fr hp := h
theorem WRd.id {Q : List Dat → Prop} {r : List Nat} (h : WRd P ops C Q r fr) : WRd P ops C Q r fr := h
theorem SW.alloc {dst : Option Tmp} {ty : TypeId} {ps : String} {af : Array Edge} {T : TypeId} {n : Nat} {agg : Bool} {z : Value} (hz : TyZ P T z) (hs : (dX z).Shape n agg) :
    SW P ops hp (fun b : Nat => hCell b T n agg (dX z) :: hp) (fun b => dX (.pointer (some ⟨b, 0, none⟩))) { dst := dst, op := .alloc T, type := ty, pos := ps, after := af, guard := none } fr := ⟨rfl, fun {P0 B w0 w a} hh ho K Q hk => by
  obtain ⟨cs, k1, k0, k2, k3, k4⟩ := hs (fun _ => True) w z rfl
  have hrun : (execOp a.eval { dst := dst, op := .alloc T, type := ty, pos := ps, after := af, guard := none }).run P w = .ok (.value (.pointer (some ⟨w.heap.size, 0, none⟩))) (w.alloc (.cells cs.toArray T)) := by
    cases hq : P.info? T with
    | none => have := hz.out; simp [hq] at this
    | some i =>
      have hz' : i.zero = some z := by have := hz.out; simpa [hq] using this
      unfold execOp
      simp [Instr.alloc, zeroValue, typeInfo, hq, hz', newVar, newRow, k3]
  unfold Oper.wp
  rw [hrun]
  have hx := Ext.of_alloc w (.cells cs.toArray T)
  have hb : ∀ k, (hCell w.heap.size T n agg (dX z)).blk = some k → w.heap.size ≤ k ∧ k < (w.alloc (.cells cs.toArray T)).heap.size := fun k hk => by
    cases hk
    exact ⟨Nat.le_refl _, by simp⟩
  exact hk w.heap.size _ _ (hh.push hx hb ⟨cs, z, alloc_get w _, k1, k0, k2, k4, rfl⟩) (fun d u hd => Hp.pushed hx (fun k hk => (hb k hk).1) hd) rfl⟩
end
end Go.Proofs.Ytkedmlandjlogaa
namespace Go.Proofs.Ytkedmlandjlogaa
set_option linter.unusedSectionVars false
section
variable {V : Type} [DecidableEq V]
def repM (m : List (V × V)) (v : V) : V := m.foldl (fun x p => if x = p.1 then p.2 else x) v
def depM (m : List (V × V)) (v : V) : Nat := (m.foldl (fun (x : V × Nat) p => if x.1 = p.1 then (p.2, x.2 + 1) else x) (v, 0)).2
theorem rep_dep (m : List (V × V)) (v : V) (n : Nat) : (m.foldl (fun (x : V × Nat) p => if x.1 = p.1 then (p.2, x.2 + 1) else x) (v, n)).1 = repM m v := by
  induction m generalizing v n with
  | nil => rfl
  | cons p m ih =>
    unfold repM at *
    rw [List.foldl_cons, List.foldl_cons]
    by_cases h : v = p.1
    · rw [if_pos h, if_pos h]; exact ih _ _
    · rw [if_neg h, if_neg h]; exact ih _ _
theorem rep_snoc (m : List (V × V)) (a b v : V) : repM (m ++ [(a, b)]) v = if repM m v = a then b else repM m v := by
  unfold repM; rw [List.foldl_append]; rfl
theorem dep_snoc (m : List (V × V)) (a b v : V) : depM (m ++ [(a, b)]) v = if repM m v = a then depM m v + 1 else depM m v := by
  have h := rep_dep m v 0
  unfold depM
  rw [List.foldl_append]
  simp only [List.foldl_cons, List.foldl_nil]
  rw [h]
  by_cases h1 : repM m v = a
  · rw [if_pos h1, if_pos h1]
  · rw [if_neg h1, if_neg h1]
inductive OkM : List (V × V) → Prop
  | nil : OkM []
  | snoc {m : List (V × V)} {a b : V} (h : OkM m) (ha : a ∉ m.map (·.1)) (hb : b ∉ m.map (·.1)) (hne : a ≠ b) : OkM (m ++ [(a, b)])
theorem look_snoc {m : List (V × V)} {a b v : V} (ha : a ∉ m.map (·.1)) : lookM (m ++ [(a, b)]) v = if v = a then some b else lookM m v := by
  unfold lookM
  rw [List.find?_append]
  by_cases h : v = a
  · subst h
    rw [if_pos rfl]
    have : m.find? (fun p => decide (p.1 = v)) = none := by
      rw [List.find?_eq_none]
      intro p hp hc
      exact ha (List.mem_map.2 ⟨p, hp, of_decide_eq_true hc⟩)
    rw [this]
    simp
  · rw [if_neg h]
    cases h1 : m.find? (fun p => decide (p.1 = v)) with
    | none =>
      have : decide (a = v) = false := decide_eq_false fun hc => h hc.symm
      simp [this]
    | some p => simp
theorem look_none {m : List (V × V)} {v : V} : lookM m v = none ↔ v ∉ m.map (·.1) := by
  unfold lookM
  rw [Option.map_eq_none_iff, List.find?_eq_none]
  constructor
  · intro h hc
    obtain ⟨p, hp, h1⟩ := List.mem_map.1 hc
    exact h p hp (decide_eq_true h1)
  · intro h p hp hc
    exact h (List.mem_map.2 ⟨p, hp, of_decide_eq_true hc⟩)
theorem rep_root {m : List (V × V)} (h : OkM m) {v : V} (hv : v ∉ m.map (·.1)) : repM m v = v ∧ depM m v = 0 := by
  induction h with
  | nil => exact ⟨rfl, rfl⟩
  | snoc h ha hb hne ih =>
    rename_i m a b
    rw [List.map_append, List.mem_append, not_or] at hv
    obtain ⟨h1, h2⟩ := ih hv.1
    have h3 : v ≠ a := by simpa using hv.2
    rw [rep_snoc, dep_snoc, h1, h2, if_neg h3, if_neg h3]
    exact ⟨rfl, rfl⟩
theorem rep_step {m : List (V × V)} (h : OkM m) {v u : V} (hv : lookM m v = some u) : repM m v = repM m u ∧ depM m u < depM m v := by
  induction h with
  | nil => simp [lookM] at hv
  | snoc h ha hb hne ih =>
    rename_i m a b
    rw [look_snoc ha] at hv
    by_cases h1 : v = a
    · rw [if_pos h1] at hv
      subst h1
      cases hv
      obtain ⟨h2, h3⟩ := rep_root h ha
      obtain ⟨h4, h5⟩ := rep_root h hb
      rw [rep_snoc, rep_snoc, dep_snoc, dep_snoc, h2, h3, h4, h5, if_pos rfl, if_neg (Ne.symm hne), if_pos rfl, if_neg (Ne.symm hne)]
      exact ⟨rfl, by omega⟩
    · rw [if_neg h1] at hv
      obtain ⟨h2, h3⟩ := ih hv
      rw [rep_snoc, rep_snoc, dep_snoc, dep_snoc, h2]
      refine ⟨rfl, ?_⟩
      by_cases h4 : repM m u = a
      · rw [if_pos h4, if_pos h4]; omega
      · rw [if_neg h4, if_neg h4]; exact h3
theorem rep_not {m : List (V × V)} (h : OkM m) (v : V) : repM m v ∉ m.map (·.1) := by
  induction h with
  | nil => simp
  | snoc h ha hb hne ih =>
    rename_i m a b
    rw [rep_snoc, List.map_append, List.mem_append]
    by_cases h1 : repM m v = a
    · rw [if_pos h1]; simp only [List.map_cons, List.map_nil, List.mem_singleton]
      exact fun hc => hc.elim hb fun hc => hne hc.symm
    · rw [if_neg h1]; simp only [List.map_cons, List.map_nil, List.mem_singleton]
      exact fun hc => hc.elim ih h1
def joinM (m : List (V × V)) (u v : V) : List (V × V) := if repM m u = repM m v then m else m ++ [(repM m u, repM m v)]
theorem join_ok {m : List (V × V)} (h : OkM m) (u v : V) : OkM (joinM m u v) := by
  unfold joinM
  by_cases h1 : repM m u = repM m v
  · rw [if_pos h1]; exact h
  · rw [if_neg h1]; exact OkM.snoc h (rep_not h u) (rep_not h v) h1
theorem join_rep (m : List (V × V)) (u v x : V) : repM (joinM m u v) x = if repM m x = repM m u then repM m v else repM m x := by
  unfold joinM
  by_cases h1 : repM m u = repM m v
  · rw [if_pos h1]
    by_cases h2 : repM m x = repM m u
    · rw [if_pos h2, h2, h1]
    · rw [if_neg h2]
  · rw [if_neg h1, rep_snoc]
def joinsM (m : List (V × V)) (es : List (V × V)) : List (V × V) := es.foldl (fun m e => joinM m e.1 e.2) m
theorem joins_ok {es : List (V × V)} : ∀ {m : List (V × V)}, OkM m → OkM (joinsM m es) := by
  induction es with
  | nil => intro m h; exact h
  | cons e es ih => intro m h; exact ih (join_ok h e.1 e.2)
inductive Conn (es : List (V × V)) : V → V → Prop
  | refl (u : V) : Conn es u u
  | step {u v w : V} (h : Conn es u v) (e : (v, w) ∈ es ∨ (w, v) ∈ es) : Conn es u w
theorem Conn.trans {es : List (V × V)} {u v w : V} (h : Conn es u v) (k : Conn es v w) : Conn es u w := by
  induction k with
  | refl => exact h
  | step _ e ih => exact ih.step e
theorem Conn.symm {es : List (V × V)} {u v : V} (h : Conn es u v) : Conn es v u := by
  induction h with
  | refl => exact .refl _
  | step _ e ih => exact (Conn.step (.refl _) e.symm).trans ih
theorem Conn.mono {es es' : List (V × V)} (hs : ∀ e ∈ es, e ∈ es') {u v : V} (h : Conn es u v) : Conn es' u v := by
  induction h with
  | refl => exact .refl _
  | step _ e ih => exact ih.step (e.elim (fun e => .inl (hs _ e)) fun e => .inr (hs _ e))
theorem joins_snoc (es : List (V × V)) (e : V × V) : joinsM [] (es ++ [e]) = joinM (joinsM [] es) e.1 e.2 := by unfold joinsM; rw [List.foldl_append]; rfl
theorem take_ind {α : Type} {P : List α → Prop} (h0 : P []) (h1 : ∀ l a, P l → P (l ++ [a])) : ∀ l, P l := fun l => by
  have : P l.reverse.reverse := by
    induction l.reverse with
    | nil => exact h0
    | cons a l ih => rw [List.reverse_cons]; exact h1 _ _ ih
  rwa [List.reverse_reverse] at this
theorem conn_iff (es : List (V × V)) : ∀ u v, repM (joinsM [] es) u = repM (joinsM [] es) v ↔ Conn es u v := by
  refine take_ind (P := fun es => ∀ u v, repM (joinsM [] es) u = repM (joinsM [] es) v ↔ Conn es u v) ?_ ?_ es
  · intro u v
    constructor
    · intro h
      have : u = v := h
      subst this
      exact .refl _
    · intro h
      induction h with
      | refl => rfl
      | step _ e _ => simp at e
  · intro es e ih u v
    have hm : ∀ x ∈ es, x ∈ es ++ [e] := fun x hx => List.mem_append_left _ hx
    have h1 : Conn (es ++ [e]) e.1 e.2 := .step (.refl _) (.inl (by simp))
    rw [joins_snoc, join_rep, join_rep]
    constructor
    · intro h
      by_cases a1 : repM (joinsM [] es) u = repM (joinsM [] es) e.1
      · have c1 := ((ih _ _).1 a1).mono hm
        by_cases a2 : repM (joinsM [] es) v = repM (joinsM [] es) e.1
        · exact c1.trans (((ih _ _).1 a2).mono hm).symm
        · rw [if_pos a1, if_neg a2] at h
          exact (c1.trans h1).trans (((ih _ _).1 h).mono hm)
      · by_cases a2 : repM (joinsM [] es) v = repM (joinsM [] es) e.1
        · rw [if_neg a1, if_pos a2] at h
          exact ((((ih _ _).1 h).mono hm).trans h1.symm).trans (((ih _ _).1 a2).mono hm).symm
        · rw [if_neg a1, if_neg a2] at h
          exact ((ih _ _).1 h).mono hm
    · intro h
      induction h with
      | refl => rfl
      | step _ k ihk =>
        rename_i x y _
        rw [ihk]
        have hk : ∀ x y : V, (x, y) ∈ es ++ [e] → (if repM (joinsM [] es) x = repM (joinsM [] es) e.1 then repM (joinsM [] es) e.2 else repM (joinsM [] es) x) = if repM (joinsM [] es) y = repM (joinsM [] es) e.1 then repM (joinsM [] es) e.2 else repM (joinsM [] es) y := by
          intro x y hxy
          rcases List.mem_append.1 hxy with hxy | hxy
          · have := (ih x y).2 (.step (.refl _) (.inl hxy))
            rw [this]
          · have he : (x, y) = e := by simpa using hxy
            subst he
            rw [if_pos rfl]
            by_cases h3 : repM (joinsM [] es) y = repM (joinsM [] es) x
            · rw [if_pos h3]
            · rw [if_neg h3]
        rcases k with k | k
        · exact hk _ _ k
        · exact (hk _ _ k).symm
end
end Go.Proofs.Ytkedmlandjlogaa
