/-
  Part 22 of the texts that the claims of this seat lean on: walks of the program's functions by contracts over symbolic frames, and plain laws of what they compute. No condition.
-/
import Derived.Laws.IdiomRangeMap
import Derived.Test.YtjbepoofigokjaaGreatVt6
import Derived.Test.YtjbepoofigokjaaGreatVt8
import Derived.Test.YtjbepoofigokjaaGreatVt14
import Derived.Test.YtjbepoofigokjaaGreatVt15
import Derived.Test.YtjbepoofigokjaaGreatVt17
import Derived.Test.YtjbepoofigokjaaGreatVt19
import Derived.Test.YtjbepoofigokjaaGreatVt21
set_option linter.unusedVariables false
set_option linter.unusedSimpArgs false
set_option linter.unusedSectionVars false
namespace Go.Proofs.YtjbepoofigokjaaGreat
open Go.RowKit
theorem wp_mono2 {P : Program} {o : Oper} {a : Act} {w : World} {K K' : Act → World → Prop} {Q Q' : Exit → Act → World → Prop} (h : ∀ a w, K a w → K' a w) (hq : ∀ e a w, e ≠ .normal → Q e a w → Q' e a w)
    (hh : o.wp P a w K Q) : o.wp P a w K' Q' := by
  have hl : LetsOut Q → LetsOut Q' := fun ⟨a, w, x⟩ => ⟨a, w, hq _ _ _ (by simp) x⟩
  unfold Oper.wp at *
  generalize (execOp a.eval o).run P w = r at *
  cases r with
  | ok n w' =>
    cases n <;> simp only [Oper.upon] at hh ⊢ <;>
      first
        | exact h _ _ hh
        | exact Calls.mono hh (fun e w'' he => by cases e <;> first | exact h _ _ he | exact hq _ _ _ (by simp) he | exact hl he)
        | exact Rows.mono hh (fun _ _ he => h _ _ he)
  | halt x w' => cases x <;> simp only [Oper.upon] at hh ⊢ <;> first | exact hh | exact hq _ _ _ (by simp) hh
structure WA (P : Program) (ops : Array Oper) (Q : Post) (g : Nat) (S : List Bool) (fr : List Dat) (hp : List HObj) : Prop where
  of ::
  out : ∀ (P0 : Nat → Prop) (B : Nat) (w0 w : World) (a : Act), Hp P0 B w0 hp w → Fr (Imm P0 B hp) w a fr → wpAny P .any ops (lift Q P0 B w0) g S.toArray a w
def ThenA (P : Program) (ops : Array Oper) (Q : Post) (g : Nat) (S : List Bool) : Post := fun e f p => match e with | .normal => WA P ops Q g S f p | e => Q e f p
section
variable {P : Program} {ops : Array Oper} {hp : List HObj} {fr : List Dat} {Q : Post} {g : Nat} {S : List Bool}
theorem WA.id (h : WA P ops Q g S fr hp) : WA P ops Q g S fr hp := h
theorem WA.nil (hr : Region.ready .any ops S.toArray = []) (h : Q .normal fr hp) : WA P ops Q 0 S fr hp := WA.of fun _ _ _ _ _ hh hf => ⟨hr, fr, hp, h, hh, hf⟩
theorem WA.step {i : Nat} {o : Oper} (ho : ops[i]? = some o) (h : WL P ops (ThenA P ops Q g (S.set i true)) [o] fr hp) {P0 : Nat → Prop} {B : Nat} {w0 w : World} {a : Act} (hh : Hp P0 B w0 hp w) (hf : Fr (Imm P0 B hp) w a fr) :
    wpOp P ops (lift Q P0 B w0) i (wpAny P .any ops (lift Q P0 B w0) g (S.toArray.setIfInBounds i true)) a w := by
  have h1 := h.on hh hf
  unfold wpList at h1
  unfold wpOp
  simp only [ho]
  have he : S.toArray.setIfInBounds i true = (S.set i true).toArray := by simp
  rw [he]
  have hK : ∀ a' w', wpList P ops (lift (ThenA P ops Q g (S.set i true)) P0 B w0) [] a' w' → wpAny P .any ops (lift Q P0 B w0) g (S.set i true).toArray a' w' := fun a' w' hn => by
    obtain ⟨f, p, q, r, s⟩ := (hn : lift (ThenA P ops Q g (S.set i true)) P0 B w0 .normal a' w')
    exact (q : WA P ops Q g (S.set i true) f p).out _ _ _ _ _ r s
  have hQ : ∀ e a' w', e ≠ .normal → lift (ThenA P ops Q g (S.set i true)) P0 B w0 e a' w' → lift Q P0 B w0 e a' w' := fun e a' w' hne ⟨f, p, q, r, s⟩ => by
    cases e with
    | normal => exact absurd rfl hne
    | _ => exact ⟨f, p, q, r, s⟩
  split
  · rename_i hw
    rw [if_pos hw] at h1
    rcases h1 with h1 | ⟨h1, a2, w2, h2⟩
    · exact .inl (wp_mono2 hK hQ h1)
    · exact .inr ⟨h1, a2, w2, hQ _ _ _ (by simp) h2⟩
  · rename_i hw
    rw [if_neg hw] at h1
    exact hK _ _ h1
theorem WA.one {l : List Oper} {i : Nat} {o : Oper} (hr : Region.ready .any l.toArray S.toArray = [i]) (ho : l[i]? = some o) (h : WL P l.toArray (ThenA P l.toArray Q g (S.set i true)) [o] fr hp) : WA P l.toArray Q (g + 1) S fr hp := WA.of fun P0 B w0 w a hh hf => by
  refine ⟨fun h0 => (by rw [hr] at h0; cases h0), fun j hj => ?_⟩
  rw [hr] at hj
  cases List.mem_singleton.1 hj
  exact WA.step (by simpa using ho) h hh hf
theorem ThenA.n (h : WA P ops Q g S fr hp) : ThenA P ops Q g S .normal fr hp := h
end
end Go.Proofs.YtjbepoofigokjaaGreat
namespace Go.Proofs.YtjbepoofigokjaaGreat
open Go.RowKit
def chainB2 (md : Region.Mode) (ops : Array Oper) (n : Nat) : Bool :=
  (List.range ops.size).all fun t => decide (t ≤ n) || (List.range ops.size).any fun s => decide (n ≤ s) && Region.waitsFor md ops t s
theorem tail_waits2 {md : Region.Mode} {ops : Array Oper} {n : Nat} {listed : Array Bool} (hs : Region.sinkB md ops n = true) (hc : chainB2 md ops n = true) (hn : n < ops.size) (inv : HeadInv md ops n listed) :
    ∀ (d i : Nat), n - i = d → i < n → listed.getD i true = false → ∀ t, n ≤ t → t ∉ Region.ready md ops listed := by
  intro d
  induction d using Nat.strongRecOn with
  | _ d ih =>
    intro i hd hi hun t ht hr
    obtain ⟨_, ot, hot, hall⟩ := mem_ready.1 hr
    have htlt : t < ops.size := (Array.getElem?_eq_some_iff.1 hot).1
    by_cases htn : t = n
    · subst htn
      have h1 := List.all_eq_true.1 hs i (List.mem_range.2 hi)
      obtain ⟨j, hj, hj2⟩ := List.any_eq_true.1 h1
      simp only [Bool.and_eq_true, decide_eq_true_eq] at hj2
      obtain ⟨oj, hoj, e, he, hb, hon⟩ := Region.waitsFor_spec hj2.2
      have hjle : j ≤ t := by have := List.mem_range.1 hj; omega
      by_cases hjt : j = t
      · subst hjt
        have : oj = ot := Option.some.inj (hoj.symm.trans hot)
        subst this
        have h2 := hall e he hb
        rw [hon, getD_both hun] at h2
        cases h2
      · cases hl : listed.getD j false with
        | true =>
          have h2 := inv.closed j oj hoj hl e he hb
          rw [hon, getD_both hun] at h2
          cases h2
        | false =>
          have hjs : j < listed.size := by rw [inv.size]; omega
          exact ih (t - j) (by omega) j rfl (by omega) (getD_in hjs hl) t (Nat.le_refl _) hr
    · have h1 := List.all_eq_true.1 hc t (List.mem_range.2 htlt)
      simp only [Bool.or_eq_true, decide_eq_true_eq] at h1
      rcases h1 with h1 | h1
      · omega
      · obtain ⟨s, hsr, hsw⟩ := List.any_eq_true.1 h1
        simp only [Bool.and_eq_true, decide_eq_true_eq] at hsw
        obtain ⟨o', ho', e, he, hb, hon⟩ := Region.waitsFor_spec hsw.2
        have : o' = ot := Option.some.inj (ho'.symm.trans hot)
        subst this
        have h2 := hall e he hb
        rw [hon, getD_both (inv.tail s hsw.1 (List.mem_range.1 hsr))] at h2
        cases h2
section
variable {P : Program} {ops : Array Oper} {md : Region.Mode} {fr fr' : List Dat} {hp : List HObj} {C : List HObj → Prop}
def sOpM (P : Program) (ops : Array Oper) (C : List HObj → Prop) (i : Nat) (K : List Dat → List HObj → Prop) (fr : List Dat) (hp : List HObj) : Prop :=
  ∃ o, ops[i]? = some o ∧ ((∃ d, (∀ hp', C hp' → SYG P ops hp' o fr d) ∧ K (setD fr o.dst d) hp) ∨
    ∃ (β : Type) (H : β → List HObj) (D : β → Dat), SW P ops hp H D o fr ∧ (∀ x, C (H x)) ∧ ∀ x, K (setD fr o.dst (D x)) (H x))
def wpAnyM (P : Program) (md : Region.Mode) (ops : Array Oper) (C : List HObj → Prop) (n : Nat) (L : Array Bool → List Dat → List HObj → Prop) : Nat → Array Bool → List Dat → List HObj → Prop
  | 0, listed, fr, hp => L listed fr hp
  | f + 1, listed, fr, hp =>
    Region.ready md ops listed ≠ [] ∧ ∀ i ∈ Region.ready md ops listed, i < n ∧ sOpM P ops C i (wpAnyM P md ops C n L f (listed.setIfInBounds i true)) fr hp
theorem wpAny_of_headM {n g : Nat} {L : Array Bool → List Dat → List HObj → Prop} {Q' : Exit → Act → World → Prop} {P0 : Nat → Prop} {B : Nat} {w0 : World} : ∀ (f : Nat) (listed : Array Bool) (fr : List Dat) (hp : List HObj) (a : Act) (w : World), C hp → Hp P0 B w0 hp w → Fr (Imm P0 B hp) w a fr →
    (∀ listed fr hp a w', Hp P0 B w0 hp w' → Fr (Imm P0 B hp) w' a fr → L listed fr hp → wpAny P md ops Q' g listed a w') → wpAnyM P md ops C n L f listed fr hp → wpAny P md ops Q' (f + g) listed a w
  | 0, listed, fr, hp, a, w, _, hh, hf, hL, h => by rw [Nat.zero_add]; exact hL _ _ _ _ _ hh hf h
  | f + 1, listed, fr, hp, a, w, hc, hh, hf, hL, h => by
    rw [show f + 1 + g = (f + g) + 1 by omega]
    refine ⟨fun h0 => absurd h0 h.1, fun i hi => ?_⟩
    obtain ⟨o, ho, h1⟩ := (h.2 i hi).2
    unfold wpOp
    simp only [ho]
    rcases h1 with ⟨d, hs, hk⟩ | ⟨β, H, D, hw, hC, hk⟩
    · have := (hs hp hc).step (Q := Q') hh hf (K := wpAny P md ops Q' (f + g) (listed.setIfInBounds i true)) fun a' w' e hf' => wpAny_of_headM f _ _ hp _ _ hc (hh.ext e) hf' hL hk
      split
      · rename_i hw; rw [if_pos hw] at this; exact .inl this
      · rename_i hw; rw [if_neg hw] at this; exact this
    · have hwant : Region.wanted o (yielded ops a.tmps) = true := by simp [Region.wanted, hw.guard]
      rw [if_pos hwant]
      exact .inl (hw.out hh (hf.on _) _ _ fun x v w' hh' hrd hd => wpAny_of_headM f _ _ (H x) _ _ (hC x) hh' (Fr.put (hf.mono fun d u hu => hrd d u hu) hd) hL (hk x))
theorem wpAnyM_first {n i : Nat} {oi : Oper} {di : Dat} {L : Array Bool → List Dat → List HObj → Prop} (hi : ops[i]? = some oi)
    (hs : Region.sinkB md ops n = true) (hc : chainB2 md ops n = true) (hn : n < ops.size) (hin : i < n)
    (hdone : ∀ listed a c, L listed a c → ∀ j ∈ Region.ready md ops listed, n ≤ j) :
    ∀ (f : Nat) (listed : Array Bool) (fr : List Dat) (hp : List HObj), HeadInv md ops n listed →
      (∀ j oj, ops[j]? = some oj → j ≠ i → listed.getD j true = false → (∀ e ∈ oj.after, Region.binds md e = true → e.on ≠ i) → oi.apart ops oj = true) →
      i ∈ Region.ready md ops listed → (∀ hp', C hp' → SYG P ops hp' oi fr di) →
      wpAnyM P md ops C n L f (listed.setIfInBounds i true) (setD fr oi.dst di) hp → wpAnyM P md ops C n L (f + 1) listed fr hp := by
  intro f
  induction f with
  | zero =>
    intro listed fr hp inv _ hr hy H
    have hun := (mem_ready.1 hr).1
    refine ⟨fun h => (by rw [h] at hr; cases hr), fun j hj => ?_⟩
    have hjn : j < n := by
      rcases Nat.lt_or_ge j n with h | h
      · exact h
      · exact absurd hj (tail_waits2 hs hc hn inv _ i rfl hin hun j h)
    refine ⟨hjn, ?_⟩
    by_cases hji : j = i
    · subst hji; exact ⟨oi, hi, .inl ⟨di, hy, H⟩⟩
    · have := hdone _ _ _ H j (ready_mono hj hji)
      omega
  | succ f ih =>
    intro listed fr hp inv hfree hr hy H
    have hun := (mem_ready.1 hr).1
    refine ⟨fun h => (by rw [h] at hr; cases hr), fun j hj => ?_⟩
    have hjn : j < n := by
      rcases Nat.lt_or_ge j n with h | h
      · exact h
      · exact absurd hj (tail_waits2 hs hc hn inv _ i rfl hin hun j h)
    refine ⟨hjn, ?_⟩
    by_cases hji : j = i
    · subst hji; exact ⟨oi, hi, .inl ⟨di, hy, H⟩⟩
    · obtain ⟨oj', hoj', h1⟩ := (H.2 j (ready_mono hj hji)).2
      obtain ⟨hjun, oj, hoj, hall⟩ := mem_ready.1 hj
      have hoo : oj = oj' := by rw [hoj] at hoj'; simpa using hoj'
      subst hoo
      have hnot : ∀ e ∈ oj.after, Region.binds md e = true → e.on ≠ i := fun e he hb heq => by
        have h1 := hall e he hb
        rw [heq, getD_both hun] at h1
        cases h1
      obtain ⟨a1, a2, a3⟩ := Oper.apart_spec (hfree j oj hoj hji hjun hnot)
      have hfree' : ∀ k ok, ops[k]? = some ok → k ≠ i → (listed.setIfInBounds j true).getD k true = false →
          (∀ e ∈ ok.after, Region.binds md e = true → e.on ≠ i) → oi.apart ops ok = true := fun k ok hk hki hun hno => by
        refine hfree k ok hk hki ?_ hno
        by_cases hjk : j = k
        · subst hjk; exact hjun
        · rw [getD_set_ne true hjk] at hun; exact hun
      have key : ∀ (d : Dat) (hp' : List HObj), wpAnyM P md ops C n L f ((listed.setIfInBounds i true).setIfInBounds j true) (setD (setD fr oi.dst di) oj.dst d) hp' →
          wpAnyM P md ops C n L (f + 1) (listed.setIfInBounds j true) (setD fr oj.dst d) hp' := fun d hp' hk => by
        refine ih (listed.setIfInBounds j true) (setD fr oj.dst d) hp' (inv.set hj hjn) hfree' (ready_mono hr (Ne.symm hji)) (fun c hc => (hy c hc).same (setD_length _ _ _) fun t ht => setD_other fun e => a3 t e ht) ?_
        rw [Array.setIfInBounds_comm _ _ hji, ← setD_comm fr di d a2]
        exact hk
      refine ⟨oj, hoj, ?_⟩
      rcases h1 with ⟨d, hs', hk⟩ | ⟨β, H', D, hw, hC, hk⟩
      · exact .inl ⟨d, fun c hc => (hs' c hc).same (setD_length _ _ _).symm fun t ht => (setD_other fun e => a1 t e ht).symm, key _ _ hk⟩
      · exact .inr ⟨β, H', D, hw.same (setD_length _ _ _).symm fun t ht => (setD_other fun e => a1 t e ht).symm, hC, fun x => key _ _ (hk x)⟩
def ordB (md : Region.Mode) (ops : Array Oper) (n : Nat) : List (Nat × Bool) → Array Bool → Bool
  | [], listed => (Region.ready md ops listed).all fun j => decide (n ≤ j)
  | (i, false) :: r, listed => decide (i < n) && (Region.ready md ops listed).contains i && Region.free md ops listed i && ordB md ops n r (listed.setIfInBounds i true)
  | (i, true) :: r, listed => decide (i < n) && decide (Region.ready md ops listed = [i]) && ordB md ops n r (listed.setIfInBounds i true)
inductive WM (P : Program) (ops : Array Oper) (C : List HObj → Prop) (Q : List Dat → List HObj → Prop) : List (Nat × Bool) → List Dat → List HObj → Prop
  | nil {fr : List Dat} {hp : List HObj} : Q fr hp → WM P ops C Q [] fr hp
  | read {i : Nat} {o : Oper} {r : List (Nat × Bool)} {fr : List Dat} {hp : List HObj} {d : Dat} : ops[i]? = some o → (∀ hp', C hp' → SYG P ops hp' o fr d) → WM P ops C Q r (setD fr o.dst d) hp → WM P ops C Q ((i, false) :: r) fr hp
  | write {i : Nat} {o : Oper} {r : List (Nat × Bool)} {fr : List Dat} {hp : List HObj} {β : Type} {H : β → List HObj} {D : β → Dat} : ops[i]? = some o → SW P ops hp H D o fr → (∀ x, C (H x)) → (∀ x, WM P ops C Q r (setD fr o.dst (D x)) (H x)) → WM P ops C Q ((i, true) :: r) fr hp
theorem wpAnyM_ord {n : Nat} {Q : List Dat → List HObj → Prop} (hs : Region.sinkB md ops n = true) (hc : chainB2 md ops n = true) (hn : n < ops.size) :
    ∀ (l : List (Nat × Bool)) (listed : Array Bool) (fr : List Dat) (hp : List HObj), HeadInv md ops n listed → ordB md ops n l listed = true → WM P ops C Q l fr hp →
    wpAnyM P md ops C n (fun listed' f p => (∀ j ∈ Region.ready md ops listed', n ≤ j) ∧ listed' = l.foldl (fun s p => s.setIfInBounds p.1 true) listed ∧ Q f p) l.length listed fr hp
  | [], listed, fr, hp, _, hB, h => by
    cases h
    rename_i h
    refine ⟨fun j hj => ?_, rfl, h⟩
    simp only [ordB, List.all_eq_true, decide_eq_true_eq] at hB
    exact hB j hj
  | (i, false) :: r, listed, fr, hp, inv, hB, h => by
    cases h
    rename_i o d ho hy hk
    simp only [ordB, Bool.and_eq_true, decide_eq_true_eq] at hB
    obtain ⟨⟨⟨hin, hr⟩, hf⟩, hB'⟩ := hB
    have hr' : i ∈ Region.ready md ops listed := by simpa using hr
    exact wpAnyM_first ho hs hc hn hin (fun _ _ _ hL => hL.1) r.length listed fr hp inv (Region.free_spec ho hf) hr' hy
      (wpAnyM_ord hs hc hn r _ _ _ (inv.set hr' hin) hB' hk)
  | (i, true) :: r, listed, fr, hp, inv, hB, h => by
    simp only [ordB, Bool.and_eq_true, decide_eq_true_eq] at hB
    obtain ⟨⟨hin, hr⟩, hB'⟩ := hB
    have hr' : i ∈ Region.ready md ops listed := by rw [hr]; simp
    cases h with
    | write ho hw hC hk =>
      refine ⟨fun h0 => (by rw [hr] at h0; cases h0), fun j hj => ?_⟩
      rw [hr] at hj
      cases List.mem_singleton.1 hj
      exact ⟨hin, _, ho, .inr ⟨_, _, _, hw, hC, fun x => wpAnyM_ord hs hc hn r _ _ _ (inv.set hr' hin) hB' (hk x)⟩⟩
theorem WC.drawM {id : Nat} {l : List Oper} {Q : Post} (C : List HObj → Prop) (n m : Nat) (ord : List (Nat × Bool)) (S : List Bool) (hm : P.follows .mixedOrders = true)
    (hB : (decide (n < l.toArray.size) && Region.sinkB .any l.toArray n && chainB2 .any l.toArray n && ordB .any l.toArray n ord (Array.replicate l.toArray.size false)) = true) (hS : ord.foldl (fun s p => s.setIfInBounds p.1 true) (Array.replicate l.toArray.size false) = S.toArray) (hlen : l.length = ord.length + m) (hC : C hp)
    (h : WM P l.toArray C (fun f p => WA P l.toArray Q m S f p) ord fr hp) : WC P Q (.region id l.toArray true) fr hp := by
  refine WC.of fun P0 B w0 w a hh hf => ?_
  simp only [Bool.and_eq_true, decide_eq_true_eq] at hB
  obtain ⟨⟨⟨hn, hs⟩, hc⟩, hord⟩ := hB
  have inv0 : HeadInv .any l.toArray n (Array.replicate l.toArray.size false) :=
    ⟨by simp, fun j oj _ hl => (by rw [getD_replicate_false] at hl; cases hl), fun t _ ht => getD_in (by simpa using ht) (getD_replicate_false _ _)⟩
  have HW := wpAnyM_ord hs hc hn ord _ fr hp inv0 hord h
  have hx : Ext w { w with drawn := w.drawn + 1 } := (Ext.refl w).drew
  refine wp_region_any hm ?_
  have := wpAny_of_headM (Q' := lift Q P0 B w0) (g := m) _ _ _ hp _ _ hC (hh.ext hx) (hf.ext hx) (fun listed' fr' hp' a' w' hh' hf' hL => by
    rw [hL.2.1, hS]
    exact hL.2.2.out _ _ _ _ _ hh' hf') HW
  rw [show l.toArray.size = ord.length + m by simpa using hlen]
  rw [show (l.toArray.size) = ord.length + m by simpa using hlen] at this
  exact this
theorem WM.readL {l : List Oper} {Q : List Dat → List HObj → Prop} {i : Nat} {o : Oper} {r : List (Nat × Bool)} {d : Dat} (ho : l[i]? = some o) (h : ∀ hp', C hp' → SYG P l.toArray hp' o fr d) (k : WM P l.toArray C Q r (setD fr o.dst d) hp) : WM P l.toArray C Q ((i, false) :: r) fr hp := WM.read (by simpa using ho) h k
theorem WM.writeL {l : List Oper} {Q : List Dat → List HObj → Prop} {i : Nat} {o : Oper} {r : List (Nat × Bool)} {β : Type} {H : β → List HObj} {D : β → Dat} (ho : l[i]? = some o) (h : SW P l.toArray hp H D o fr) (hC : ∀ x, C (H x)) (k : ∀ x, WM P l.toArray C Q r (setD fr o.dst (D x)) (H x)) : WM P l.toArray C Q ((i, true) :: r) fr hp := WM.write (by simpa using ho) h hC k
theorem WM.id {Q : List Dat → List HObj → Prop} {r : List (Nat × Bool)} (h : WM P ops C Q r fr hp) : WM P ops C Q r fr hp := h
end
end Go.Proofs.YtjbepoofigokjaaGreat
namespace Go.Proofs.YtjbepoofigokjaaGreat
open Go.RowKit
section
variable {P : Program} {ops : Array Oper} {hp : List HObj} {o : Oper} {fr : List Dat} {d d2 : Dat} {Q : Post} {rest : List Oper}
variable {dst : Option Tmp} {ty : TypeId} {ps : String} {af : Array Edge} {t k e : TypeId} {z : Value} {K V : Type} [DecidableEq K] {kv : K → Value} {ok : K → Prop} {vv : V → Value} {b r : Nat} {m : List (K × V)}
theorem rd_t2 {I : Nat → Prop} {w : World} (u : Value) (n : Int) : (dT [dX u, dI n]).rd I w (.tuple #[u, .int .i64 n]) := ⟨[u, .int .i64 n], rfl, rfl, fun i e x he hx => by
  match i, he, hx with
  | 0, he, hx => cases he; cases hx; rfl
  | 1, he, hx => cases he; cases hx; rfl⟩
theorem SW.entOld {x y : Operand} {v : K} {q : Nat} (T : MapT P t k e z) (H : KeyT P k kv ok) (hx : OpD fr x (dX (.map (some b)))) (hy : OpD fr y d) (hd : IsV d (kv v)) (ho : ok v) (hok : ∀ p ∈ m, ok p.1) (hn : (m.map (·.1)).Nodup) (hq : q < m.length) (hqv : m[q].1 = v) (zv : V) (hz : vv zv = z) :
    SW P ops (hM b kv vv m :: hp) (fun _ : Unit => hM b kv vv m :: hp) (fun _ => dT [dX (vv m[q].2), dI q]) { dst := dst, op := .mapEntry t x y, type := ty, pos := ps, after := af, guard := none } fr := ⟨rfl, fun {P0 B w0 w a} hh hon KK QQ hkk => by
  have e1 : a.eval x = _ := hx.get (by simp [Op.operands]) hon
  have e2 := hd.is _ _ _ (hy.get (by simp [Op.operands]) hon)
  rcases run_entry T H hok ho (hh.ok (hM b kv vv m) (by simp)) with ⟨j, hj, hjv, hr⟩ | ⟨hne, hr⟩
  · have hjq : j = q := by
      have hp := List.pairwise_iff_getElem.1 hn
      have a1 : j < (m.map (·.1)).length := by simpa using hj
      have a2 : q < (m.map (·.1)).length := by simpa using hq
      have h3 : (m.map (·.1))[j] = (m.map (·.1))[q] := by simp [hjv, hqv]
      rcases Nat.lt_trichotomy j q with h | h | h
      · exact absurd h3 (hp j q a1 a2 h)
      · exact h
      · exact absurd h3.symm (hp q j a2 a1 h)
    subst hjq
    have hrun : (execOp a.eval { dst := dst, op := .mapEntry t x y, type := ty, pos := ps, after := af, guard := none }).run P w = .ok (.value (.tuple #[vv m[j].2, .int .i64 j])) (w.putObj b (mapObj (encM kv vv m))) := by
      unfold execOp
      simp only [e1, e2, Sem.run_bind, hr, Result.andThen_ok, Sem.run_pure]
      rfl
    unfold Oper.wp
    rw [hrun]
    exact hkk () _ _ (Hp.putObj hh) (fun d u hd => Hp.putObj_rd hd) (rd_t2 _ _)
  · exact absurd hqv (hne _ (List.getElem_mem hq))⟩
end
end Go.Proofs.YtjbepoofigokjaaGreat
namespace Go.Proofs.YtjbepoofigokjaaGreat
abbrev CntM := List (List Vx × Int)
theorem lookM_keys {K V : Type} [DecidableEq K] {m : List (K × V)} {x : K} : (lookM m x).isSome = true ↔ x ∈ m.map (·.1) := by
  unfold lookM
  rw [Option.isSome_map, List.find?_isSome, List.mem_map]
  constructor
  · rintro ⟨p, hp, h⟩; exact ⟨p, hp, by simpa using h⟩
  · rintro ⟨p, hp, h⟩; exact ⟨p, hp, by simpa using h⟩
theorem putM_keys {K V : Type} [DecidableEq K] {m : List (K × V)} {x : K} {v : V} (hn : (m.map (·.1)).Nodup) : ((putM m x v).map (·.1)).Nodup ∧ ∀ u, u ∈ (putM m x v).map (·.1) ↔ u = x ∨ u ∈ m.map (·.1) := by
  unfold putM
  split
  · rename_i h
    have e : (m.map fun p => if p.1 = x then (x, v) else p).map (·.1) = m.map (·.1) := by
      rw [List.map_map]
      refine List.map_congr_left fun p _ => ?_
      show (if p.1 = x then (x, v) else p).1 = p.1
      split
      · rename_i h; exact h.symm
      · rfl
    rw [e]
    refine ⟨hn, fun u => ⟨.inr, ?_⟩⟩
    rintro (rfl | hu)
    · exact lookM_keys.1 h
    · exact hu
  · rename_i h
    have hx : x ∉ m.map (·.1) := fun hx => h (lookM_keys.2 hx)
    rw [List.map_append]
    refine ⟨?_, fun u => ?_⟩
    · rw [List.nodup_append]
      refine ⟨hn, by simp, fun a ha b hb => ?_⟩
      have : b = x := by simpa using hb
      subst this
      intro hab
      subst hab
      exact hx ha
    · rw [List.mem_append]
      simp only [List.map_cons, List.map_nil, List.mem_singleton]
      exact or_comm
def fcsC (l : Cx) (d : Nat) : Cx := (l.map (subsV d)).flatten
theorem fcsC_mem {l : Cx} {d : Nat} {f : List Vx} : f ∈ fcsC l d ↔ f ∈ allC l d := by
  unfold fcsC
  rw [List.mem_flatten, allC_mem]
  constructor
  · rintro ⟨x, hx, hf⟩
    obtain ⟨s, hs, rfl⟩ := List.mem_map.1 hx
    exact ⟨s, hs, hf⟩
  · rintro ⟨s, hs, hf⟩
    exact ⟨_, List.mem_map_of_mem hs, hf⟩
theorem sub_inside {f s : List Vx} (hf : Asc f) (hs : Asc s) : f.Sublist s ↔ insideV f s = true := by
  constructor
  · intro h
    unfold insideV
    rw [List.all_eq_true]
    intro x hx
    simpa using h.subset hx
  · intro h
    have hsub : ∀ x ∈ f, x ∈ s := fun x hx => by
      have := List.all_eq_true.1 h x hx
      simpa using this
    have e : sharedV s f true = f := asc_ext (asc_shared hs) hf fun x => by
      rw [mem_shared]
      constructor
      · intro ⟨_, h⟩; simpa using h
      · intro hx; exact ⟨hsub x hx, by simpa using hx⟩
    rw [← e]; exact shared_sub
theorem subs_nodup {s : List Vx} (h : Asc s) (d : Nat) : (subsV d s).Nodup := List.Pairwise.imp (fun {a b} hab hc => by
  subst hc; rw [cmpL_irr] at hab; omega) (subsV_sorted d s h)
theorem count_le_one : ∀ {l : Cx}, l.Nodup → ∀ f, l.count f ≤ 1
  | [], _, f => by simp
  | x :: l, h, f => by
    rw [List.nodup_cons] at h
    rw [List.count_cons]
    by_cases hx : x = f
    · subst hx
      rw [List.count_eq_zero.2 h.1]; simp
    · have : (x == f) = false := by simpa using hx
      rw [this]
      have := count_le_one h.2 f
      simpa using this
theorem count_subs {s f : List Vx} {d : Nat} (hs : Asc s) : (subsV d s).count f = if f ∈ subsV d s then 1 else 0 := by
  split
  · rename_i h
    have h1 : 0 < (subsV d s).count f := List.count_pos_iff.2 h
    have h2 := count_le_one (subs_nodup hs d) f
    omega
  · rename_i h; exact List.count_eq_zero.2 h
end Go.Proofs.YtjbepoofigokjaaGreat
namespace Go.Proofs.YtjbepoofigokjaaGreat
open Go.RowKit
set_option linter.unusedSimpArgs false

set_option maxHeartbeats 2000000
set_option maxRecDepth 100000
abbrev vvI (n : Int) : Value := .int .i64 n
theorem look_cnt (M : CntM) (f : List Vx) : ((lookM M f).map vvI).getD (.int .i64 0) = .int .i64 ((lookM M f).getD 0) := by cases lookM M f <;> rfl
end Go.Proofs.YtjbepoofigokjaaGreat
namespace Go.Proofs.YtjbepoofigokjaaGreat
open Go.RowKit
set_option linter.unusedSimpArgs false

set_option maxHeartbeats 2000000
set_option maxRecDepth 100000
abbrev vc : Vx := (2, 0)
abbrev vd : Vx := (3, 0)
end Go.Proofs.YtjbepoofigokjaaGreat
namespace Go.Proofs.YtjbepoofigokjaaGreat
open Go.RowKit
set_option linter.unusedSimpArgs false

set_option maxHeartbeats 2000000
set_option maxRecDepth 100000
def chooseN : Nat → Nat → Nat
  | _, 0 => 1
  | 0, _ + 1 => 0
  | n + 1, k + 1 => chooseN n k + chooseN n (k + 1)
theorem subs_choose : ∀ (s : List Vx) (k : Nat), (subsV k s).length = chooseN s.length k
  | s, 0 => by rw [subsV_zero]; cases s <;> rfl
  | [], k + 1 => by rw [subsV_short _ _ (by simp)]; rfl
  | v :: s, k + 1 => by rw [subsV_next, subs_choose s k, subs_choose s (k + 1)]; rfl
theorem sameC_self (l : Cx) : Fn Tryz.prog 19 [dS Cpx l, dS Cpx l] (dB true) := by
  have := sameC_c l l
  rwa [decide_eq_true rfl] at this
end Go.Proofs.YtjbepoofigokjaaGreat
namespace Go.Proofs.YtjbepoofigokjaaGreat
theorem inside_trans {a b c : List Vx} (h : insideV a b = true) (k : insideV b c = true) : insideV a c = true := by
  unfold insideV at *
  rw [List.all_eq_true] at *
  intro x hx
  exact k x (of_decide_eq_true (h x hx))
theorem inside_self (a : List Vx) : insideV a a = true := by
  unfold insideV
  rw [List.all_eq_true]
  intro x hx
  exact decide_eq_true hx
theorem top_over {l : Cx} (h : ∀ s ∈ l, 0 < s.length ∧ s.length ≤ 8) : ∀ (n : Nat) (s : List Vx), s ∈ l → 8 - s.length ≤ n → ∃ f ∈ maxC l, insideV s f = true
  | n, s, hs, hn => by
    by_cases hc : coveredC l s = true
    · obtain ⟨x, hx, h1, h2⟩ := coveredC_iff.1 hc
      have h3 := (h x hx).2
      match n with
      | 0 => omega
      | n + 1 =>
        obtain ⟨f, hf, h4⟩ := top_over h n x hx (by omega)
        exact ⟨f, hf, inside_trans h2 h4⟩
    · refine ⟨s, maxC_mem.2 ⟨hs, ?_⟩, inside_self s⟩
      unfold topC
      rw [Bool.and_eq_true]
      exact ⟨decide_eq_true (h s hs).1, by simpa using hc⟩
theorem hasC_iff {l : Cx} {s : List Vx} : hasC' l s = true ↔ ∃ f ∈ l, insideV s f = true := by unfold hasC'; rw [List.any_eq_true]
theorem bool_iff {a b : Bool} (h : a = true ↔ b = true) : a = b := by cases a <;> cases b <;> simp_all
theorem chk_len {s : List Vx} (h : chkV s = 0) : 0 < s.length ∧ s.length ≤ 8 := by
  obtain ⟨h1, h2, _⟩ := chkV_zero.1 h
  exact ⟨by omega, h2⟩
theorem max_has {l : Cx} (hg : ∀ s ∈ l, chkV s = 0) (s : List Vx) : hasC' (maxC l) s = hasC' l s := by
  apply bool_iff
  rw [hasC_iff, hasC_iff]
  constructor
  · rintro ⟨f, hf, h⟩; exact ⟨f, (maxC_mem.1 hf).1, h⟩
  · rintro ⟨f, hf, h⟩
    obtain ⟨g, hg', h2⟩ := top_over (fun s hs => chk_len (hg s hs)) 8 f hf (by omega)
    exact ⟨g, hg', inside_trans h h2⟩
theorem inside_mem {a b : List Vx} : insideV a b = true ↔ ∀ x ∈ a, x ∈ b := by
  unfold insideV
  rw [List.all_eq_true]
  exact ⟨fun h x hx => of_decide_eq_true (h x hx), fun h x hx => decide_eq_true (h x hx)⟩
theorem all_iff {l : Cx} (hl : ∀ s ∈ l, Asc s) {k : Nat} {x : List Vx} : x ∈ allC l k ↔ Asc x ∧ x.length = k ∧ hasC' l x = true := by
  rw [allC_mem, hasC_iff]
  constructor
  · rintro ⟨f, hf, hx⟩
    obtain ⟨h1, h2⟩ := (subsV_mem _ _ _).1 hx
    have ha : Asc x := List.Pairwise.sublist h1 (hl f hf)
    exact ⟨ha, h2, f, hf, (sub_inside ha (hl f hf)).1 h1⟩
  · rintro ⟨ha, h2, f, hf, h⟩
    exact ⟨f, hf, (subsV_mem _ _ _).2 ⟨(sub_inside ha (hl f hf)).2 h, h2⟩⟩
theorem all_few {l : Cx} {k B : Nat} (h : ∀ s ∈ l, (subsV k s).length ≤ B) : (allC l k).length ≤ B * l.length := by
  have h1 : (allC l k).length ≤ (fcsC l k).length := List.Nodup.length_le_of_subset (allC_asc l _).nodup fun x hx => fcsC_mem.2 hx
  have h2 : ∀ l : Cx, (∀ s ∈ l, (subsV k s).length ≤ B) → (fcsC l k).length ≤ B * l.length := by
    intro l
    induction l with
    | nil => intro _; simp [fcsC]
    | cons s l ih =>
      intro h
      have h3 := ih fun x hx => h x (List.mem_cons_of_mem _ hx)
      have h4 := h s (by simp)
      have h5 : (fcsC (s :: l) k).length = (subsV k s).length + (fcsC l k).length := by unfold fcsC; simp
      rw [h5, List.length_cons, Nat.mul_add, Nat.mul_one]
      omega
  exact Nat.le_trans h1 (h2 l h)
theorem choose_5 : ∀ n ≤ 5, ∀ k ≤ 5, chooseN n k ≤ 10 := by decide
structure Gd (l : Cx) : Prop where
  good : GoodX l
  few : l.length ≤ 30
  five : ∀ s ∈ l, s.length ≤ 5
theorem Gd.all {l : Cx} (h : Gd l) (k : Nat) : (allC l k).length ≤ 300 := by
  have := all_few (l := l) (k := k) (B := 10) fun s hs => by
    have h5 := h.five s hs
    by_cases hk : k ≤ 5
    · rw [subs_choose]; exact choose_5 _ h5 _ hk
    · rw [subsV_short k s (by omega)]; simp
  have := h.few
  omega
theorem Gd.zero {l : Cx} (h : Gd l) : chkC l = 0 := goodX_iff.2 h.good
theorem Gd.none {l : Cx} (h : Gd l) {k : Nat} (hk : 5 < k) : allC l k = [] := by
  apply List.eq_nil_iff_forall_not_mem.2
  intro x hx
  obtain ⟨f, hf, hx⟩ := allC_mem.1 hx
  rw [subsV_short k f (by have := h.five f hf; omega)] at hx
  simp at hx
def upC (l : Cx) : Nat → Cx
  | 0 => []
  | k + 1 => upC l k ++ allC l (k + 1)
theorem upC_mem {l : Cx} {x : List Vx} : ∀ {k : Nat}, x ∈ upC l k ↔ ∃ j, 1 ≤ j ∧ j ≤ k ∧ x ∈ allC l j
  | 0 => by
    constructor
    · intro h; simp [upC] at h
    · rintro ⟨j, h1, h2, _⟩; omega
  | k + 1 => by
    unfold upC
    rw [List.mem_append, upC_mem]
    constructor
    · rintro (⟨j, h1, h2, h3⟩ | h)
      · exact ⟨j, h1, by omega, h3⟩
      · exact ⟨k + 1, by omega, Nat.le_refl _, h⟩
    · rintro ⟨j, h1, h2, h3⟩
      by_cases hj : j = k + 1
      · subst hj; exact .inr h3
      · exact .inl ⟨j, h1, by omega, h3⟩
theorem eul_is {l : Cx} (h : GoodX l) (hl : ∀ k, (allC l (k + 1)).length ≤ 4096) : eulC l = (eulS l 8, 0) := by
  unfold eulC
  rw [goodX_iff.2 h, if_neg (by omega : ¬ (0 : Int) ≠ 0), if_neg]
  intro hc
  rw [List.any_eq_true] at hc
  obtain ⟨k, _, h2⟩ := hc
  have := of_decide_eq_true h2
  have := hl k
  omega
theorem Gd.eul {l : Cx} (h : Gd l) : eulC l = (eulS l 8, 0) := eul_is h.good fun k => Nat.le_trans (h.all _) (by decide)
end Go.Proofs.YtjbepoofigokjaaGreat
namespace Go.Proofs.YtjbepoofigokjaaGreat
def Apart (a b : Cx) : Prop := ∀ s ∈ a, ∀ t ∈ b, ∀ v ∈ s, v ∉ t
theorem Apart.symm {a b : Cx} (h : Apart a b) : Apart b a := fun s hs t ht v v1 v2 => h t ht s hs v v2 v1
theorem inside_anti {a : Cx} (ha : GoodX a) {s t : List Vx} (hs : s ∈ a) (ht : t ∈ a) (h : insideV s t = true) : s = t := by
  by_cases he : s = t
  · exact he
  · have := inside_lt (ha.asc s hs) (ha.asc t ht) h he
    have h2 : coveredC a s = true := coveredC_iff.2 ⟨t, ht, this, h⟩
    rw [ha.2.2.2 s hs] at h2; cases h2
def ofC (l : Cx) : Cx × Int := if 4096 < l.length then ([], 5) else if errC l ≠ 0 then ([], errC l) else limC (maxC l)
end Go.Proofs.YtjbepoofigokjaaGreat
namespace Go.Proofs.YtjbepoofigokjaaGreat.M
open Go.RowKit

section
variable {P : Program} {ops : Array Oper} {hp : List HObj} {fr : List Dat} {dst : Option Tmp} {ty : TypeId} {ps : String} {af : Array Edge} {g : Option (Nat × Bool)} {t e : TypeId} {n bytes : Nat} {z : Value} {ag : Bool}
theorem SY.buildE (E : ElT P t e n z bytes ag) {α : Type} {R : Rel α} {_gR : Good R} {len : Nat} {parts : Array (Nat × Operand)} {els : List α} (hx : ElsD fr R (parts.toList.map Prod.snd) els) (hparts : parts.toList = ((parts.toList.map Prod.snd).zipIdx).map (fun p => (p.2, p.1))) (hl : len = els.length) (hn : 0 < n) (hs : ∀ a, (dS R a).Shape n true) (hsm : els.length * n ≤ 16777216) :
    SY P ops hp { dst := dst, op := .buildSlice t len parts, type := ty, pos := ps, after := af, guard := g } fr (dS (ArrK n R) els) := SY.buildK E hx hparts hl hn hs hsm
end
end Go.Proofs.YtjbepoofigokjaaGreat.M
