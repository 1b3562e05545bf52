/-
  Part 35 of the texts that the claims of this seat lean on: walks of the program's functions by contracts over symbolic frames, and plain laws of what they compute. No condition.
-/
import Derived.Test.YtkedmlandjlogaaJ17
set_option linter.unusedVariables false
set_option linter.unusedSimpArgs false
set_option linter.unusedSectionVars false
namespace Go.Proofs.Ytkedmlandjlogaa
open Go.RowKit
theorem wp_mono2 {P : Program} {o : Oper} {a : Act} {w : World} {K K' : Act → World → Prop} {Q Q' : Exit → Act → World → Prop} (h : ∀ a w, K a w → K' a w) (hq : ∀ e a w, e ≠ .normal → Q e a w → Q' e a w)
    (hh : o.wp P a w K Q) : o.wp P a w K' Q' := by
  have hl : LetsOut Q → LetsOut Q' := fun ⟨a, w, x⟩ => ⟨a, w, hq _ _ _ (by simp) x⟩
  unfold Oper.wp at *
  generalize (execOp a.eval o).run P w = r at *
  cases r with
  | ok n w' =>
    cases n <;> simp only [Oper.upon] at hh ⊢ <;>
      first
        | exact h _ _ hh
        | exact Calls.mono hh (fun e w'' he => by cases e <;> first | exact h _ _ he | exact hq _ _ _ (by simp) he | exact hl he)
        | exact Rows.mono hh (fun _ _ he => h _ _ he)
  | halt x w' => cases x <;> simp only [Oper.upon] at hh ⊢ <;> first | exact hh | exact hq _ _ _ (by simp) hh
structure WA (P : Program) (ops : Array Oper) (Q : Post) (g : Nat) (S : List Bool) (fr : List Dat) (hp : List HObj) : Prop where
  of ::
  out : ∀ (P0 : Nat → Prop) (B : Nat) (w0 w : World) (a : Act), Hp P0 B w0 hp w → Fr (Imm P0 B hp) w a fr → wpAny P .any ops (lift Q P0 B w0) g S.toArray a w
def ThenA (P : Program) (ops : Array Oper) (Q : Post) (g : Nat) (S : List Bool) : Post := fun e f p => match e with | .normal => WA P ops Q g S f p | e => Q e f p
section
variable {P : Program} {ops : Array Oper} {hp : List HObj} {fr : List Dat} {Q : Post} {g : Nat} {S : List Bool}
theorem WA.id (h : WA P ops Q g S fr hp) : WA P ops Q g S fr hp := h
theorem WA.nil (hr : Region.ready .any ops S.toArray = []) (h : Q .normal fr hp) : WA P ops Q 0 S fr hp := WA.of fun _ _ _ _ _ hh hf => ⟨hr, fr, hp, h, hh, hf⟩
theorem WA.step {i : Nat} {o : Oper} (ho : ops[i]? = some o) (h : WL P ops (ThenA P ops Q g (S.set i true)) [o] fr hp) {P0 : Nat → Prop} {B : Nat} {w0 w : World} {a : Act} (hh : Hp P0 B w0 hp w) (hf : Fr (Imm P0 B hp) w a fr) :
    wpOp P ops (lift Q P0 B w0) i (wpAny P .any ops (lift Q P0 B w0) g (S.toArray.setIfInBounds i true)) a w := by
  have h1 := h.on hh hf
  unfold wpList at h1
  unfold wpOp
  simp only [ho]
  have he : S.toArray.setIfInBounds i true = (S.set i true).toArray := by simp
  rw [he]
  have hK : ∀ a' w', wpList P ops (lift (ThenA P ops Q g (S.set i true)) P0 B w0) [] a' w' → wpAny P .any ops (lift Q P0 B w0) g (S.set i true).toArray a' w' := fun a' w' hn => by
    obtain ⟨f, p, q, r, s⟩ := (hn : lift (ThenA P ops Q g (S.set i true)) P0 B w0 .normal a' w')
    exact (q : WA P ops Q g (S.set i true) f p).out _ _ _ _ _ r s
  have hQ : ∀ e a' w', e ≠ .normal → lift (ThenA P ops Q g (S.set i true)) P0 B w0 e a' w' → lift Q P0 B w0 e a' w' := fun e a' w' hne ⟨f, p, q, r, s⟩ => by
    cases e with
    | normal => exact absurd rfl hne
    | _ => exact ⟨f, p, q, r, s⟩
  split
  · rename_i hw
    rw [if_pos hw] at h1
    rcases h1 with h1 | ⟨h1, a2, w2, h2⟩
    · exact .inl (wp_mono2 hK hQ h1)
    · exact .inr ⟨h1, a2, w2, hQ _ _ _ (by simp) h2⟩
  · rename_i hw
    rw [if_neg hw] at h1
    exact hK _ _ h1
theorem WA.one {l : List Oper} {i : Nat} {o : Oper} (hr : Region.ready .any l.toArray S.toArray = [i]) (ho : l[i]? = some o) (h : WL P l.toArray (ThenA P l.toArray Q g (S.set i true)) [o] fr hp) : WA P l.toArray Q (g + 1) S fr hp := WA.of fun P0 B w0 w a hh hf => by
  refine ⟨fun h0 => (by rw [hr] at h0; cases h0), fun j hj => ?_⟩
  rw [hr] at hj
  cases List.mem_singleton.1 hj
  exact WA.step (by simpa using ho) h hh hf
theorem WA.two {l : List Oper} {i j : Nat} {o o' : Oper} (hr : Region.ready .any l.toArray S.toArray = [i, j]) (ho : l[i]? = some o) (ho' : l[j]? = some o') (h : WL P l.toArray (ThenA P l.toArray Q g (S.set i true)) [o] fr hp) (h' : WL P l.toArray (ThenA P l.toArray Q g (S.set j true)) [o'] fr hp) : WA P l.toArray Q (g + 1) S fr hp := WA.of fun P0 B w0 w a hh hf => by
  refine ⟨fun h0 => (by rw [hr] at h0; cases h0), fun k hk => ?_⟩
  rw [hr] at hk
  rcases List.mem_cons.1 hk with rfl | hk
  · exact WA.step (by simpa using ho) h hh hf
  · cases List.mem_singleton.1 hk
    exact WA.step (by simpa using ho') h' hh hf
theorem ThenA.n (h : WA P ops Q g S fr hp) : ThenA P ops Q g S .normal fr hp := h
end
end Go.Proofs.Ytkedmlandjlogaa
namespace Go.Proofs.Ytkedmlandjlogaa
open Go.RowKit
def chainB2 (md : Region.Mode) (ops : Array Oper) (n : Nat) : Bool :=
  (List.range ops.size).all fun t => decide (t ≤ n) || (List.range ops.size).any fun s => decide (n ≤ s) && Region.waitsFor md ops t s
theorem tail_waits2 {md : Region.Mode} {ops : Array Oper} {n : Nat} {listed : Array Bool} (hs : Region.sinkB md ops n = true) (hc : chainB2 md ops n = true) (hn : n < ops.size) (inv : HeadInv md ops n listed) :
    ∀ (d i : Nat), n - i = d → i < n → listed.getD i true = false → ∀ t, n ≤ t → t ∉ Region.ready md ops listed := by
  intro d
  induction d using Nat.strongRecOn with
  | _ d ih =>
    intro i hd hi hun t ht hr
    obtain ⟨_, ot, hot, hall⟩ := mem_ready.1 hr
    have htlt : t < ops.size := (Array.getElem?_eq_some_iff.1 hot).1
    by_cases htn : t = n
    · subst htn
      have h1 := List.all_eq_true.1 hs i (List.mem_range.2 hi)
      obtain ⟨j, hj, hj2⟩ := List.any_eq_true.1 h1
      simp only [Bool.and_eq_true, decide_eq_true_eq] at hj2
      obtain ⟨oj, hoj, e, he, hb, hon⟩ := Region.waitsFor_spec hj2.2
      have hjle : j ≤ t := by have := List.mem_range.1 hj; omega
      by_cases hjt : j = t
      · subst hjt
        have : oj = ot := Option.some.inj (hoj.symm.trans hot)
        subst this
        have h2 := hall e he hb
        rw [hon, getD_both hun] at h2
        cases h2
      · cases hl : listed.getD j false with
        | true =>
          have h2 := inv.closed j oj hoj hl e he hb
          rw [hon, getD_both hun] at h2
          cases h2
        | false =>
          have hjs : j < listed.size := by rw [inv.size]; omega
          exact ih (t - j) (by omega) j rfl (by omega) (getD_in hjs hl) t (Nat.le_refl _) hr
    · have h1 := List.all_eq_true.1 hc t (List.mem_range.2 htlt)
      simp only [Bool.or_eq_true, decide_eq_true_eq] at h1
      rcases h1 with h1 | h1
      · omega
      · obtain ⟨s, hsr, hsw⟩ := List.any_eq_true.1 h1
        simp only [Bool.and_eq_true, decide_eq_true_eq] at hsw
        obtain ⟨o', ho', e, he, hb, hon⟩ := Region.waitsFor_spec hsw.2
        have : o' = ot := Option.some.inj (ho'.symm.trans hot)
        subst this
        have h2 := hall e he hb
        rw [hon, getD_both (inv.tail s hsw.1 (List.mem_range.1 hsr))] at h2
        cases h2
section
variable {P : Program} {ops : Array Oper} {md : Region.Mode} {fr fr' : List Dat} {hp : List HObj} {C : List HObj → Prop}
def sOpM (P : Program) (ops : Array Oper) (C : List HObj → Prop) (i : Nat) (K : List Dat → List HObj → Prop) (fr : List Dat) (hp : List HObj) : Prop :=
  ∃ o, ops[i]? = some o ∧ ((∃ d, (∀ hp', C hp' → SYG P ops hp' o fr d) ∧ K (setD fr o.dst d) hp) ∨
    ∃ (β : Type) (H : β → List HObj) (D : β → Dat), SW P ops hp H D o fr ∧ (∀ x, C (H x)) ∧ ∀ x, K (setD fr o.dst (D x)) (H x))
def wpAnyM (P : Program) (md : Region.Mode) (ops : Array Oper) (C : List HObj → Prop) (n : Nat) (L : Array Bool → List Dat → List HObj → Prop) : Nat → Array Bool → List Dat → List HObj → Prop
  | 0, listed, fr, hp => L listed fr hp
  | f + 1, listed, fr, hp =>
    Region.ready md ops listed ≠ [] ∧ ∀ i ∈ Region.ready md ops listed, i < n ∧ sOpM P ops C i (wpAnyM P md ops C n L f (listed.setIfInBounds i true)) fr hp
theorem wpAny_of_headM {n g : Nat} {L : Array Bool → List Dat → List HObj → Prop} {Q' : Exit → Act → World → Prop} {P0 : Nat → Prop} {B : Nat} {w0 : World} : ∀ (f : Nat) (listed : Array Bool) (fr : List Dat) (hp : List HObj) (a : Act) (w : World), C hp → Hp P0 B w0 hp w → Fr (Imm P0 B hp) w a fr →
    (∀ listed fr hp a w', Hp P0 B w0 hp w' → Fr (Imm P0 B hp) w' a fr → L listed fr hp → wpAny P md ops Q' g listed a w') → wpAnyM P md ops C n L f listed fr hp → wpAny P md ops Q' (f + g) listed a w
  | 0, listed, fr, hp, a, w, _, hh, hf, hL, h => by rw [Nat.zero_add]; exact hL _ _ _ _ _ hh hf h
  | f + 1, listed, fr, hp, a, w, hc, hh, hf, hL, h => by
    rw [show f + 1 + g = (f + g) + 1 by omega]
    refine ⟨fun h0 => absurd h0 h.1, fun i hi => ?_⟩
    obtain ⟨o, ho, h1⟩ := (h.2 i hi).2
    unfold wpOp
    simp only [ho]
    rcases h1 with ⟨d, hs, hk⟩ | ⟨β, H, D, hw, hC, hk⟩
    · have := (hs hp hc).step (Q := Q') hh hf (K := wpAny P md ops Q' (f + g) (listed.setIfInBounds i true)) fun a' w' e hf' => wpAny_of_headM f _ _ hp _ _ hc (hh.ext e) hf' hL hk
      split
      · rename_i hw; rw [if_pos hw] at this; exact .inl this
      · rename_i hw; rw [if_neg hw] at this; exact this
    · have hwant : Region.wanted o (yielded ops a.tmps) = true := by simp [Region.wanted, hw.guard]
      rw [if_pos hwant]
      exact .inl (hw.out hh (hf.on _) _ _ fun x v w' hh' hrd hd => wpAny_of_headM f _ _ (H x) _ _ (hC x) hh' (Fr.put (hf.mono fun d u hu => hrd d u hu) hd) hL (hk x))
theorem wpAnyM_first {n i : Nat} {oi : Oper} {di : Dat} {L : Array Bool → List Dat → List HObj → Prop} (hi : ops[i]? = some oi)
    (hs : Region.sinkB md ops n = true) (hc : chainB2 md ops n = true) (hn : n < ops.size) (hin : i < n)
    (hdone : ∀ listed a c, L listed a c → ∀ j ∈ Region.ready md ops listed, n ≤ j) :
    ∀ (f : Nat) (listed : Array Bool) (fr : List Dat) (hp : List HObj), HeadInv md ops n listed →
      (∀ j oj, ops[j]? = some oj → j ≠ i → listed.getD j true = false → (∀ e ∈ oj.after, Region.binds md e = true → e.on ≠ i) → oi.apart ops oj = true) →
      i ∈ Region.ready md ops listed → (∀ hp', C hp' → SYG P ops hp' oi fr di) →
      wpAnyM P md ops C n L f (listed.setIfInBounds i true) (setD fr oi.dst di) hp → wpAnyM P md ops C n L (f + 1) listed fr hp := by
  intro f
  induction f with
  | zero =>
    intro listed fr hp inv _ hr hy H
    have hun := (mem_ready.1 hr).1
    refine ⟨fun h => (by rw [h] at hr; cases hr), fun j hj => ?_⟩
    have hjn : j < n := by
      rcases Nat.lt_or_ge j n with h | h
      · exact h
      · exact absurd hj (tail_waits2 hs hc hn inv _ i rfl hin hun j h)
    refine ⟨hjn, ?_⟩
    by_cases hji : j = i
    · subst hji; exact ⟨oi, hi, .inl ⟨di, hy, H⟩⟩
    · have := hdone _ _ _ H j (ready_mono hj hji)
      omega
  | succ f ih =>
    intro listed fr hp inv hfree hr hy H
    have hun := (mem_ready.1 hr).1
    refine ⟨fun h => (by rw [h] at hr; cases hr), fun j hj => ?_⟩
    have hjn : j < n := by
      rcases Nat.lt_or_ge j n with h | h
      · exact h
      · exact absurd hj (tail_waits2 hs hc hn inv _ i rfl hin hun j h)
    refine ⟨hjn, ?_⟩
    by_cases hji : j = i
    · subst hji; exact ⟨oi, hi, .inl ⟨di, hy, H⟩⟩
    · obtain ⟨oj', hoj', h1⟩ := (H.2 j (ready_mono hj hji)).2
      obtain ⟨hjun, oj, hoj, hall⟩ := mem_ready.1 hj
      have hoo : oj = oj' := by rw [hoj] at hoj'; simpa using hoj'
      subst hoo
      have hnot : ∀ e ∈ oj.after, Region.binds md e = true → e.on ≠ i := fun e he hb heq => by
        have h1 := hall e he hb
        rw [heq, getD_both hun] at h1
        cases h1
      obtain ⟨a1, a2, a3⟩ := Oper.apart_spec (hfree j oj hoj hji hjun hnot)
      have hfree' : ∀ k ok, ops[k]? = some ok → k ≠ i → (listed.setIfInBounds j true).getD k true = false →
          (∀ e ∈ ok.after, Region.binds md e = true → e.on ≠ i) → oi.apart ops ok = true := fun k ok hk hki hun hno => by
        refine hfree k ok hk hki ?_ hno
        by_cases hjk : j = k
        · subst hjk; exact hjun
        · rw [getD_set_ne true hjk] at hun; exact hun
      have key : ∀ (d : Dat) (hp' : List HObj), wpAnyM P md ops C n L f ((listed.setIfInBounds i true).setIfInBounds j true) (setD (setD fr oi.dst di) oj.dst d) hp' →
          wpAnyM P md ops C n L (f + 1) (listed.setIfInBounds j true) (setD fr oj.dst d) hp' := fun d hp' hk => by
        refine ih (listed.setIfInBounds j true) (setD fr oj.dst d) hp' (inv.set hj hjn) hfree' (ready_mono hr (Ne.symm hji)) (fun c hc => (hy c hc).same (setD_length _ _ _) fun t ht => setD_other fun e => a3 t e ht) ?_
        rw [Array.setIfInBounds_comm _ _ hji, ← setD_comm fr di d a2]
        exact hk
      refine ⟨oj, hoj, ?_⟩
      rcases h1 with ⟨d, hs', hk⟩ | ⟨β, H', D, hw, hC, hk⟩
      · exact .inl ⟨d, fun c hc => (hs' c hc).same (setD_length _ _ _).symm fun t ht => (setD_other fun e => a1 t e ht).symm, key _ _ hk⟩
      · exact .inr ⟨β, H', D, hw.same (setD_length _ _ _).symm fun t ht => (setD_other fun e => a1 t e ht).symm, hC, fun x => key _ _ (hk x)⟩
def ordB (md : Region.Mode) (ops : Array Oper) (n : Nat) : List (Nat × Bool) → Array Bool → Bool
  | [], listed => (Region.ready md ops listed).all fun j => decide (n ≤ j)
  | (i, false) :: r, listed => decide (i < n) && (Region.ready md ops listed).contains i && Region.free md ops listed i && ordB md ops n r (listed.setIfInBounds i true)
  | (i, true) :: r, listed => decide (i < n) && decide (Region.ready md ops listed = [i]) && ordB md ops n r (listed.setIfInBounds i true)
inductive WM (P : Program) (ops : Array Oper) (C : List HObj → Prop) (Q : List Dat → List HObj → Prop) : List (Nat × Bool) → List Dat → List HObj → Prop
  | nil {fr : List Dat} {hp : List HObj} : Q fr hp → WM P ops C Q [] fr hp
  | read {i : Nat} {o : Oper} {r : List (Nat × Bool)} {fr : List Dat} {hp : List HObj} {d : Dat} : ops[i]? = some o → (∀ hp', C hp' → SYG P ops hp' o fr d) → WM P ops C Q r (setD fr o.dst d) hp → WM P ops C Q ((i, false) :: r) fr hp
  | write {i : Nat} {o : Oper} {r : List (Nat × Bool)} {fr : List Dat} {hp : List HObj} {β : Type} {H : β → List HObj} {D : β → Dat} : ops[i]? = some o → SW P ops hp H D o fr → (∀ x, C (H x)) → (∀ x, WM P ops C Q r (setD fr o.dst (D x)) (H x)) → WM P ops C Q ((i, true) :: r) fr hp
theorem wpAnyM_ord {n : Nat} {Q : List Dat → List HObj → Prop} (hs : Region.sinkB md ops n = true) (hc : chainB2 md ops n = true) (hn : n < ops.size) :
    ∀ (l : List (Nat × Bool)) (listed : Array Bool) (fr : List Dat) (hp : List HObj), HeadInv md ops n listed → ordB md ops n l listed = true → WM P ops C Q l fr hp →
    wpAnyM P md ops C n (fun listed' f p => (∀ j ∈ Region.ready md ops listed', n ≤ j) ∧ listed' = l.foldl (fun s p => s.setIfInBounds p.1 true) listed ∧ Q f p) l.length listed fr hp
  | [], listed, fr, hp, _, hB, h => by
    cases h
    rename_i h
    refine ⟨fun j hj => ?_, rfl, h⟩
    simp only [ordB, List.all_eq_true, decide_eq_true_eq] at hB
    exact hB j hj
  | (i, false) :: r, listed, fr, hp, inv, hB, h => by
    cases h
    rename_i o d ho hy hk
    simp only [ordB, Bool.and_eq_true, decide_eq_true_eq] at hB
    obtain ⟨⟨⟨hin, hr⟩, hf⟩, hB'⟩ := hB
    have hr' : i ∈ Region.ready md ops listed := by simpa using hr
    exact wpAnyM_first ho hs hc hn hin (fun _ _ _ hL => hL.1) r.length listed fr hp inv (Region.free_spec ho hf) hr' hy
      (wpAnyM_ord hs hc hn r _ _ _ (inv.set hr' hin) hB' hk)
  | (i, true) :: r, listed, fr, hp, inv, hB, h => by
    simp only [ordB, Bool.and_eq_true, decide_eq_true_eq] at hB
    obtain ⟨⟨hin, hr⟩, hB'⟩ := hB
    have hr' : i ∈ Region.ready md ops listed := by rw [hr]; simp
    cases h with
    | write ho hw hC hk =>
      refine ⟨fun h0 => (by rw [hr] at h0; cases h0), fun j hj => ?_⟩
      rw [hr] at hj
      cases List.mem_singleton.1 hj
      exact ⟨hin, _, ho, .inr ⟨_, _, _, hw, hC, fun x => wpAnyM_ord hs hc hn r _ _ _ (inv.set hr' hin) hB' (hk x)⟩⟩
theorem WC.drawM {id : Nat} {l : List Oper} {Q : Post} (C : List HObj → Prop) (n m : Nat) (ord : List (Nat × Bool)) (S : List Bool) (hm : P.follows .mixedOrders = true)
    (hB : (decide (n < l.toArray.size) && Region.sinkB .any l.toArray n && chainB2 .any l.toArray n && ordB .any l.toArray n ord (Array.replicate l.toArray.size false)) = true) (hS : ord.foldl (fun s p => s.setIfInBounds p.1 true) (Array.replicate l.toArray.size false) = S.toArray) (hlen : l.length = ord.length + m) (hC : C hp)
    (h : WM P l.toArray C (fun f p => WA P l.toArray Q m S f p) ord fr hp) : WC P Q (.region id l.toArray true) fr hp := by
  refine WC.of fun P0 B w0 w a hh hf => ?_
  simp only [Bool.and_eq_true, decide_eq_true_eq] at hB
  obtain ⟨⟨⟨hn, hs⟩, hc⟩, hord⟩ := hB
  have inv0 : HeadInv .any l.toArray n (Array.replicate l.toArray.size false) :=
    ⟨by simp, fun j oj _ hl => (by rw [getD_replicate_false] at hl; cases hl), fun t _ ht => getD_in (by simpa using ht) (getD_replicate_false _ _)⟩
  have HW := wpAnyM_ord hs hc hn ord _ fr hp inv0 hord h
  have hx : Ext w { w with drawn := w.drawn + 1 } := (Ext.refl w).drew
  refine wp_region_any hm ?_
  have := wpAny_of_headM (Q' := lift Q P0 B w0) (g := m) _ _ _ hp _ _ hC (hh.ext hx) (hf.ext hx) (fun listed' fr' hp' a' w' hh' hf' hL => by
    rw [hL.2.1, hS]
    exact hL.2.2.out _ _ _ _ _ hh' hf') HW
  rw [show l.toArray.size = ord.length + m by simpa using hlen]
  rw [show (l.toArray.size) = ord.length + m by simpa using hlen] at this
  exact this
theorem WM.readL {l : List Oper} {Q : List Dat → List HObj → Prop} {i : Nat} {o : Oper} {r : List (Nat × Bool)} {d : Dat} (ho : l[i]? = some o) (h : ∀ hp', C hp' → SYG P l.toArray hp' o fr d) (k : WM P l.toArray C Q r (setD fr o.dst d) hp) : WM P l.toArray C Q ((i, false) :: r) fr hp := WM.read (by simpa using ho) h k
theorem WM.writeL {l : List Oper} {Q : List Dat → List HObj → Prop} {i : Nat} {o : Oper} {r : List (Nat × Bool)} {β : Type} {H : β → List HObj} {D : β → Dat} (ho : l[i]? = some o) (h : SW P l.toArray hp H D o fr) (hC : ∀ x, C (H x)) (k : ∀ x, WM P l.toArray C Q r (setD fr o.dst (D x)) (H x)) : WM P l.toArray C Q ((i, true) :: r) fr hp := WM.write (by simpa using ho) h hC k
theorem WM.id {Q : List Dat → List HObj → Prop} {r : List (Nat × Bool)} (h : WM P ops C Q r fr hp) : WM P ops C Q r fr hp := h
end
end Go.Proofs.Ytkedmlandjlogaa
