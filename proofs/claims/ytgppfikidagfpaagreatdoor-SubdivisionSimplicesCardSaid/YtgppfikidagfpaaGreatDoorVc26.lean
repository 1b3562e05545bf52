/-
  Part 26 of the texts that the claims of this seat lean on: walks of the program's functions by contracts over symbolic frames, and plain laws of what they compute. No condition.
-/
import Derived.Test.YtgppfikidagfpaaGreatDoorVc5
import Derived.Test.YtgppfikidagfpaaGreatDoorVc6
import Derived.Test.YtgppfikidagfpaaGreatDoorVc7
import Derived.Test.YtgppfikidagfpaaGreatDoorVc10
import Derived.Test.YtgppfikidagfpaaGreatDoorVc11
import Derived.Test.YtgppfikidagfpaaGreatDoorVc12
import Derived.Test.YtgppfikidagfpaaGreatDoorVc13
import Derived.Test.YtgppfikidagfpaaGreatDoorVc14
import Derived.Test.YtgppfikidagfpaaGreatDoorVc15
import Derived.Test.YtgppfikidagfpaaGreatDoorVc17
import Derived.Test.YtgppfikidagfpaaGreatDoorVc21
import Derived.Test.YtgppfikidagfpaaGreatDoorVc23
import Derived.Test.YtgppfikidagfpaaGreatDoorVc25
set_option linter.unusedVariables false
set_option linter.unusedSimpArgs false
set_option linter.unusedSectionVars false
namespace Go.Proofs.YtgppfikidagfpaaGreatDoor
open Go.RowKit
def chainB2 (md : Region.Mode) (ops : Array Oper) (n : Nat) : Bool :=
  (List.range ops.size).all fun t => decide (t ≤ n) || (List.range ops.size).any fun s => decide (n ≤ s) && Region.waitsFor md ops t s
theorem tail_waits2 {md : Region.Mode} {ops : Array Oper} {n : Nat} {listed : Array Bool} (hs : Region.sinkB md ops n = true) (hc : chainB2 md ops n = true) (hn : n < ops.size) (inv : HeadInv md ops n listed) :
    ∀ (d i : Nat), n - i = d → i < n → listed.getD i true = false → ∀ t, n ≤ t → t ∉ Region.ready md ops listed := by
  intro d
  induction d using Nat.strongRecOn with
  | _ d ih =>
    intro i hd hi hun t ht hr
    obtain ⟨_, ot, hot, hall⟩ := mem_ready.1 hr
    have htlt : t < ops.size := (Array.getElem?_eq_some_iff.1 hot).1
    by_cases htn : t = n
    · subst htn
      have h1 := List.all_eq_true.1 hs i (List.mem_range.2 hi)
      obtain ⟨j, hj, hj2⟩ := List.any_eq_true.1 h1
      simp only [Bool.and_eq_true, decide_eq_true_eq] at hj2
      obtain ⟨oj, hoj, e, he, hb, hon⟩ := Region.waitsFor_spec hj2.2
      have hjle : j ≤ t := by have := List.mem_range.1 hj; omega
      by_cases hjt : j = t
      · subst hjt
        have : oj = ot := Option.some.inj (hoj.symm.trans hot)
        subst this
        have h2 := hall e he hb
        rw [hon, getD_both hun] at h2
        cases h2
      · cases hl : listed.getD j false with
        | true =>
          have h2 := inv.closed j oj hoj hl e he hb
          rw [hon, getD_both hun] at h2
          cases h2
        | false =>
          have hjs : j < listed.size := by rw [inv.size]; omega
          exact ih (t - j) (by omega) j rfl (by omega) (getD_in hjs hl) t (Nat.le_refl _) hr
    · have h1 := List.all_eq_true.1 hc t (List.mem_range.2 htlt)
      simp only [Bool.or_eq_true, decide_eq_true_eq] at h1
      rcases h1 with h1 | h1
      · omega
      · obtain ⟨s, hsr, hsw⟩ := List.any_eq_true.1 h1
        simp only [Bool.and_eq_true, decide_eq_true_eq] at hsw
        obtain ⟨o', ho', e, he, hb, hon⟩ := Region.waitsFor_spec hsw.2
        have : o' = ot := Option.some.inj (ho'.symm.trans hot)
        subst this
        have h2 := hall e he hb
        rw [hon, getD_both (inv.tail s hsw.1 (List.mem_range.1 hsr))] at h2
        cases h2
section
variable {P : Program} {ops : Array Oper} {md : Region.Mode} {fr fr' : List Dat} {hp : List HObj} {C : List HObj → Prop}
def sOpM (P : Program) (ops : Array Oper) (C : List HObj → Prop) (i : Nat) (K : List Dat → List HObj → Prop) (fr : List Dat) (hp : List HObj) : Prop :=
  ∃ o, ops[i]? = some o ∧ ((∃ d, (∀ hp', C hp' → SYG P ops hp' o fr d) ∧ K (setD fr o.dst d) hp) ∨
    ∃ (β : Type) (H : β → List HObj) (D : β → Dat), SW P ops hp H D o fr ∧ (∀ x, C (H x)) ∧ ∀ x, K (setD fr o.dst (D x)) (H x))
def wpAnyM (P : Program) (md : Region.Mode) (ops : Array Oper) (C : List HObj → Prop) (n : Nat) (L : Array Bool → List Dat → List HObj → Prop) : Nat → Array Bool → List Dat → List HObj → Prop
  | 0, listed, fr, hp => L listed fr hp
  | f + 1, listed, fr, hp =>
    Region.ready md ops listed ≠ [] ∧ ∀ i ∈ Region.ready md ops listed, i < n ∧ sOpM P ops C i (wpAnyM P md ops C n L f (listed.setIfInBounds i true)) fr hp
theorem wpAny_of_headM {n g : Nat} {L : Array Bool → List Dat → List HObj → Prop} {Q' : Exit → Act → World → Prop} {P0 : Nat → Prop} {B : Nat} {w0 : World} : ∀ (f : Nat) (listed : Array Bool) (fr : List Dat) (hp : List HObj) (a : Act) (w : World), C hp → Hp P0 B w0 hp w → Fr (Imm P0 B hp) w a fr →
    (∀ listed fr hp a w', Hp P0 B w0 hp w' → Fr (Imm P0 B hp) w' a fr → L listed fr hp → wpAny P md ops Q' g listed a w') → wpAnyM P md ops C n L f listed fr hp → wpAny P md ops Q' (f + g) listed a w
  | 0, listed, fr, hp, a, w, _, hh, hf, hL, h => by rw [Nat.zero_add]; exact hL _ _ _ _ _ hh hf h
  | f + 1, listed, fr, hp, a, w, hc, hh, hf, hL, h => by
    rw [show f + 1 + g = (f + g) + 1 by omega]
    refine ⟨fun h0 => absurd h0 h.1, fun i hi => ?_⟩
    obtain ⟨o, ho, h1⟩ := (h.2 i hi).2
    unfold wpOp
    simp only [ho]
    rcases h1 with ⟨d, hs, hk⟩ | ⟨β, H, D, hw, hC, hk⟩
    · have := (hs hp hc).step (Q := Q') hh hf (K := wpAny P md ops Q' (f + g) (listed.setIfInBounds i true)) fun a' w' e hf' => wpAny_of_headM f _ _ hp _ _ hc (hh.ext e) hf' hL hk
      split
      · rename_i hw; rw [if_pos hw] at this; exact .inl this
      · rename_i hw; rw [if_neg hw] at this; exact this
    · have hwant : Region.wanted o (yielded ops a.tmps) = true := by simp [Region.wanted, hw.guard]
      rw [if_pos hwant]
      exact .inl (hw.out hh (hf.on _) _ _ fun x v w' hh' hrd hd => wpAny_of_headM f _ _ (H x) _ _ (hC x) hh' (Fr.put (hf.mono fun d u hu => hrd d u hu) hd) hL (hk x))
theorem wpAnyM_first {n i : Nat} {oi : Oper} {di : Dat} {L : Array Bool → List Dat → List HObj → Prop} (hi : ops[i]? = some oi)
    (hs : Region.sinkB md ops n = true) (hc : chainB2 md ops n = true) (hn : n < ops.size) (hin : i < n)
    (hdone : ∀ listed a c, L listed a c → ∀ j ∈ Region.ready md ops listed, n ≤ j) :
    ∀ (f : Nat) (listed : Array Bool) (fr : List Dat) (hp : List HObj), HeadInv md ops n listed →
      (∀ j oj, ops[j]? = some oj → j ≠ i → listed.getD j true = false → (∀ e ∈ oj.after, Region.binds md e = true → e.on ≠ i) → oi.apart ops oj = true) →
      i ∈ Region.ready md ops listed → (∀ hp', C hp' → SYG P ops hp' oi fr di) →
      wpAnyM P md ops C n L f (listed.setIfInBounds i true) (setD fr oi.dst di) hp → wpAnyM P md ops C n L (f + 1) listed fr hp := by
  intro f
  induction f with
  | zero =>
    intro listed fr hp inv _ hr hy H
    have hun := (mem_ready.1 hr).1
    refine ⟨fun h => (by rw [h] at hr; cases hr), fun j hj => ?_⟩
    have hjn : j < n := by
      rcases Nat.lt_or_ge j n with h | h
      · exact h
      · exact absurd hj (tail_waits2 hs hc hn inv _ i rfl hin hun j h)
    refine ⟨hjn, ?_⟩
    by_cases hji : j = i
    · subst hji; exact ⟨oi, hi, .inl ⟨di, hy, H⟩⟩
    · have := hdone _ _ _ H j (ready_mono hj hji)
      omega
  | succ f ih =>
    intro listed fr hp inv hfree hr hy H
    have hun := (mem_ready.1 hr).1
    refine ⟨fun h => (by rw [h] at hr; cases hr), fun j hj => ?_⟩
    have hjn : j < n := by
      rcases Nat.lt_or_ge j n with h | h
      · exact h
      · exact absurd hj (tail_waits2 hs hc hn inv _ i rfl hin hun j h)
    refine ⟨hjn, ?_⟩
    by_cases hji : j = i
    · subst hji; exact ⟨oi, hi, .inl ⟨di, hy, H⟩⟩
    · obtain ⟨oj', hoj', h1⟩ := (H.2 j (ready_mono hj hji)).2
      obtain ⟨hjun, oj, hoj, hall⟩ := mem_ready.1 hj
      have hoo : oj = oj' := by rw [hoj] at hoj'; simpa using hoj'
      subst hoo
      have hnot : ∀ e ∈ oj.after, Region.binds md e = true → e.on ≠ i := fun e he hb heq => by
        have h1 := hall e he hb
        rw [heq, getD_both hun] at h1
        cases h1
      obtain ⟨a1, a2, a3⟩ := Oper.apart_spec (hfree j oj hoj hji hjun hnot)
      have hfree' : ∀ k ok, ops[k]? = some ok → k ≠ i → (listed.setIfInBounds j true).getD k true = false →
          (∀ e ∈ ok.after, Region.binds md e = true → e.on ≠ i) → oi.apart ops ok = true := fun k ok hk hki hun hno => by
        refine hfree k ok hk hki ?_ hno
        by_cases hjk : j = k
        · subst hjk; exact hjun
        · rw [getD_set_ne true hjk] at hun; exact hun
      have key : ∀ (d : Dat) (hp' : List HObj), wpAnyM P md ops C n L f ((listed.setIfInBounds i true).setIfInBounds j true) (setD (setD fr oi.dst di) oj.dst d) hp' →
          wpAnyM P md ops C n L (f + 1) (listed.setIfInBounds j true) (setD fr oj.dst d) hp' := fun d hp' hk => by
        refine ih (listed.setIfInBounds j true) (setD fr oj.dst d) hp' (inv.set hj hjn) hfree' (ready_mono hr (Ne.symm hji)) (fun c hc => (hy c hc).same (setD_length _ _ _) fun t ht => setD_other fun e => a3 t e ht) ?_
        rw [Array.setIfInBounds_comm _ _ hji, ← setD_comm fr di d a2]
        exact hk
      refine ⟨oj, hoj, ?_⟩
      rcases h1 with ⟨d, hs', hk⟩ | ⟨β, H', D, hw, hC, hk⟩
      · exact .inl ⟨d, fun c hc => (hs' c hc).same (setD_length _ _ _).symm fun t ht => (setD_other fun e => a1 t e ht).symm, key _ _ hk⟩
      · exact .inr ⟨β, H', D, hw.same (setD_length _ _ _).symm fun t ht => (setD_other fun e => a1 t e ht).symm, hC, fun x => key _ _ (hk x)⟩
def ordB (md : Region.Mode) (ops : Array Oper) (n : Nat) : List (Nat × Bool) → Array Bool → Bool
  | [], listed => (Region.ready md ops listed).all fun j => decide (n ≤ j)
  | (i, false) :: r, listed => decide (i < n) && (Region.ready md ops listed).contains i && Region.free md ops listed i && ordB md ops n r (listed.setIfInBounds i true)
  | (i, true) :: r, listed => decide (i < n) && decide (Region.ready md ops listed = [i]) && ordB md ops n r (listed.setIfInBounds i true)
inductive WM (P : Program) (ops : Array Oper) (C : List HObj → Prop) (Q : List Dat → List HObj → Prop) : List (Nat × Bool) → List Dat → List HObj → Prop
  | nil {fr : List Dat} {hp : List HObj} : Q fr hp → WM P ops C Q [] fr hp
  | read {i : Nat} {o : Oper} {r : List (Nat × Bool)} {fr : List Dat} {hp : List HObj} {d : Dat} : ops[i]? = some o → (∀ hp', C hp' → SYG P ops hp' o fr d) → WM P ops C Q r (setD fr o.dst d) hp → WM P ops C Q ((i, false) :: r) fr hp
  | write {i : Nat} {o : Oper} {r : List (Nat × Bool)} {fr : List Dat} {hp : List HObj} {β : Type} {H : β → List HObj} {D : β → Dat} : ops[i]? = some o → SW P ops hp H D o fr → (∀ x, C (H x)) → (∀ x, WM P ops C Q r (setD fr o.dst (D x)) (H x)) → WM P ops C Q ((i, true) :: r) fr hp
theorem wpAnyM_ord {n : Nat} {Q : List Dat → List HObj → Prop} (hs : Region.sinkB md ops n = true) (hc : chainB2 md ops n = true) (hn : n < ops.size) :
    ∀ (l : List (Nat × Bool)) (listed : Array Bool) (fr : List Dat) (hp : List HObj), HeadInv md ops n listed → ordB md ops n l listed = true → WM P ops C Q l fr hp →
    wpAnyM P md ops C n (fun listed' f p => (∀ j ∈ Region.ready md ops listed', n ≤ j) ∧ listed' = l.foldl (fun s p => s.setIfInBounds p.1 true) listed ∧ Q f p) l.length listed fr hp
  | [], listed, fr, hp, _, hB, h => by
    cases h
    rename_i h
    refine ⟨fun j hj => ?_, rfl, h⟩
    simp only [ordB, List.all_eq_true, decide_eq_true_eq] at hB
    exact hB j hj
  | (i, false) :: r, listed, fr, hp, inv, hB, h => by
    cases h
    rename_i o d ho hy hk
    simp only [ordB, Bool.and_eq_true, decide_eq_true_eq] at hB
    obtain ⟨⟨⟨hin, hr⟩, hf⟩, hB'⟩ := hB
    have hr' : i ∈ Region.ready md ops listed := by simpa using hr
    exact wpAnyM_first ho hs hc hn hin (fun _ _ _ hL => hL.1) r.length listed fr hp inv (Region.free_spec ho hf) hr' hy
      (wpAnyM_ord hs hc hn r _ _ _ (inv.set hr' hin) hB' hk)
  | (i, true) :: r, listed, fr, hp, inv, hB, h => by
    simp only [ordB, Bool.and_eq_true, decide_eq_true_eq] at hB
    obtain ⟨⟨hin, hr⟩, hB'⟩ := hB
    have hr' : i ∈ Region.ready md ops listed := by rw [hr]; simp
    cases h with
    | write ho hw hC hk =>
      refine ⟨fun h0 => (by rw [hr] at h0; cases h0), fun j hj => ?_⟩
      rw [hr] at hj
      cases List.mem_singleton.1 hj
      exact ⟨hin, _, ho, .inr ⟨_, _, _, hw, hC, fun x => wpAnyM_ord hs hc hn r _ _ _ (inv.set hr' hin) hB' (hk x)⟩⟩
theorem WC.drawM {id : Nat} {l : List Oper} {Q : Post} (C : List HObj → Prop) (n m : Nat) (ord : List (Nat × Bool)) (S : List Bool) (hm : P.follows .mixedOrders = true)
    (hB : (decide (n < l.toArray.size) && Region.sinkB .any l.toArray n && chainB2 .any l.toArray n && ordB .any l.toArray n ord (Array.replicate l.toArray.size false)) = true) (hS : ord.foldl (fun s p => s.setIfInBounds p.1 true) (Array.replicate l.toArray.size false) = S.toArray) (hlen : l.length = ord.length + m) (hC : C hp)
    (h : WM P l.toArray C (fun f p => WA P l.toArray Q m S f p) ord fr hp) : WC P Q (.region id l.toArray true) fr hp := by
  refine WC.of fun P0 B w0 w a hh hf => ?_
  simp only [Bool.and_eq_true, decide_eq_true_eq] at hB
  obtain ⟨⟨⟨hn, hs⟩, hc⟩, hord⟩ := hB
  have inv0 : HeadInv .any l.toArray n (Array.replicate l.toArray.size false) :=
    ⟨by simp, fun j oj _ hl => (by rw [getD_replicate_false] at hl; cases hl), fun t _ ht => getD_in (by simpa using ht) (getD_replicate_false _ _)⟩
  have HW := wpAnyM_ord hs hc hn ord _ fr hp inv0 hord h
  have hx : Ext w { w with drawn := w.drawn + 1 } := (Ext.refl w).drew
  refine wp_region_any hm ?_
  have := wpAny_of_headM (Q' := lift Q P0 B w0) (g := m) _ _ _ hp _ _ hC (hh.ext hx) (hf.ext hx) (fun listed' fr' hp' a' w' hh' hf' hL => by
    rw [hL.2.1, hS]
    exact hL.2.2.out _ _ _ _ _ hh' hf') HW
  rw [show l.toArray.size = ord.length + m by simpa using hlen]
  rw [show (l.toArray.size) = ord.length + m by simpa using hlen] at this
  exact this
theorem WM.readL {l : List Oper} {Q : List Dat → List HObj → Prop} {i : Nat} {o : Oper} {r : List (Nat × Bool)} {d : Dat} (ho : l[i]? = some o) (h : ∀ hp', C hp' → SYG P l.toArray hp' o fr d) (k : WM P l.toArray C Q r (setD fr o.dst d) hp) : WM P l.toArray C Q ((i, false) :: r) fr hp := WM.read (by simpa using ho) h k
theorem WM.writeL {l : List Oper} {Q : List Dat → List HObj → Prop} {i : Nat} {o : Oper} {r : List (Nat × Bool)} {β : Type} {H : β → List HObj} {D : β → Dat} (ho : l[i]? = some o) (h : SW P l.toArray hp H D o fr) (hC : ∀ x, C (H x)) (k : ∀ x, WM P l.toArray C Q r (setD fr o.dst (D x)) (H x)) : WM P l.toArray C Q ((i, true) :: r) fr hp := WM.write (by simpa using ho) h hC k
theorem WM.id {Q : List Dat → List HObj → Prop} {r : List (Nat × Bool)} (h : WM P ops C Q r fr hp) : WM P ops C Q r fr hp := h
end
end Go.Proofs.YtgppfikidagfpaaGreatDoor
namespace Go.Proofs.YtgppfikidagfpaaGreatDoor
open Go.RowKit
set_option linter.unusedSimpArgs false

set_option maxHeartbeats 2000000
set_option maxRecDepth 100000
abbrev vvI (n : Int) : Value := .int .i64 n
end Go.Proofs.YtgppfikidagfpaaGreatDoor
namespace Go.Proofs.YtgppfikidagfpaaGreatDoor
open Go.RowKit
set_option linter.unusedSimpArgs false

set_option maxHeartbeats 2000000
set_option maxRecDepth 100000
def chooseN : Nat → Nat → Nat
  | _, 0 => 1
  | 0, _ + 1 => 0
  | n + 1, k + 1 => chooseN n k + chooseN n (k + 1)
theorem subs_choose : ∀ (s : List Vx) (k : Nat), (subsV k s).length = chooseN s.length k
  | s, 0 => by rw [subsV_zero]; cases s <;> rfl
  | [], k + 1 => by rw [subsV_short _ _ (by simp)]; rfl
  | v :: s, k + 1 => by rw [subsV_next, subs_choose s k, subs_choose s (k + 1)]; rfl
end Go.Proofs.YtgppfikidagfpaaGreatDoor
namespace Go.Proofs.YtgppfikidagfpaaGreatDoor
theorem all_few {l : Cx} {k B : Nat} (h : ∀ s ∈ l, (subsV k s).length ≤ B) : (allC l k).length ≤ B * l.length := by
  have h1 : (allC l k).length ≤ (fcsC l k).length := List.Nodup.length_le_of_subset (allC_asc l _).nodup fun x hx => fcsC_mem.2 hx
  have h2 : ∀ l : Cx, (∀ s ∈ l, (subsV k s).length ≤ B) → (fcsC l k).length ≤ B * l.length := by
    intro l
    induction l with
    | nil => intro _; simp [fcsC]
    | cons s l ih =>
      intro h
      have h3 := ih fun x hx => h x (List.mem_cons_of_mem _ hx)
      have h4 := h s (by simp)
      have h5 : (fcsC (s :: l) k).length = (subsV k s).length + (fcsC l k).length := by unfold fcsC; simp
      rw [h5, List.length_cons, Nat.mul_add, Nat.mul_one]
      omega
  exact Nat.le_trans h1 (h2 l h)
theorem choose_5 : ∀ n ≤ 5, ∀ k ≤ 5, chooseN n k ≤ 10 := by decide
structure Gd (l : Cx) : Prop where
  good : GoodX l
  few : l.length ≤ 30
  five : ∀ s ∈ l, s.length ≤ 5
theorem Gd.all {l : Cx} (h : Gd l) (k : Nat) : (allC l k).length ≤ 300 := by
  have := all_few (l := l) (k := k) (B := 10) fun s hs => by
    have h5 := h.five s hs
    by_cases hk : k ≤ 5
    · rw [subs_choose]; exact choose_5 _ h5 _ hk
    · rw [subsV_short k s (by omega)]; simp
  have := h.few
  omega
theorem Gd.zero {l : Cx} (h : Gd l) : chkC l = 0 := goodX_iff.2 h.good
theorem Gd.none {l : Cx} (h : Gd l) {k : Nat} (hk : 5 < k) : allC l k = [] := by
  apply List.eq_nil_iff_forall_not_mem.2
  intro x hx
  obtain ⟨f, hf, hx⟩ := allC_mem.1 hx
  rw [subsV_short k f (by have := h.five f hf; omega)] at hx
  simp at hx
end Go.Proofs.YtgppfikidagfpaaGreatDoor
namespace Go.Proofs.YtgppfikidagfpaaGreatDoor
open Go.RowKit
set_option linter.unusedSimpArgs false

set_option maxHeartbeats 2000000
set_option maxRecDepth 100000
theorem mapT_car : MapT Tryz.prog 103 52 22 (.slice none 0 0) := ⟨Tryz.underlying103, fun w => by kernel_rfl⟩
theorem tyCar : TyI Tryz.prog 103 1 false := ⟨by kernel_rfl, Tryz.isAgg103⟩
theorem tyBp : TyI Tryz.prog 102 1 false := ⟨by kernel_rfl, Tryz.isAgg102⟩
theorem tyLf : TyI Tryz.prog 99 1 false := ⟨by kernel_rfl, Tryz.isAgg99⟩
theorem strB : StrT Tryz.prog 105 2 := ⟨fun b off i w hi => by
  have : i = 0 ∨ i = 1 := by omega
  rcases this with rfl | rfl <;> go_simp⟩
abbrev CarM := List (Vx × Value × List Vx)
abbrev bldO (bs bm : Nat) (fv : Value) (F : Cx) (M : CarM) : List HObj :=
  [hStr bs 105 [dX fv, dX (.map (some bm))], hRow fv 22 Verts F, hMC bm kvV M, hVals Verts M]
structure Bld (L : List Vx) (car : Vx → List Vx) (M : CarM) : Prop where
  nodup : (M.map (·.1)).Nodup
  mem : ∀ v, v ∈ M.map (·.1) ↔ v ∈ L
  car : ∀ p ∈ M, p.2.2 = car p.1
  ok : ∀ p ∈ M, okV p.1
theorem Bld.nil (car : Vx → List Vx) : Bld [] car [] := ⟨by simp, by simp, by simp, by simp⟩
theorem Bld.put {L : List Vx} {car : Vx → List Vx} {M : CarM} (h : Bld L car M) {v : Vx} (hv : okV v) (cv : Value) : Bld (L ++ [v]) car (putM M v (cv, car v)) := by
  have hk := putC_keys M v (cv, car v)
  refine ⟨?_, fun x => ?_, fun p hp => ?_, fun p hp => ?_⟩
  · rw [hk]
    split
    · exact h.nodup
    · rename_i hn
      rw [List.nodup_append]
      exact ⟨h.nodup, by simp, fun a ha b hb e => hn (by rw [← List.mem_singleton.1 hb, ← e]; exact ha)⟩
  · rw [hk, List.mem_append, List.mem_singleton, ← h.mem]
    split
    · rename_i hm
      constructor
      · exact .inl
      · rintro (h | rfl)
        · exact h
        · exact hm
    · rw [List.mem_append, List.mem_singleton]
  · rcases putM_mem hp with rfl | hp
    · rfl
    · exact h.car p hp
  · rcases putM_mem hp with rfl | hp
    · exact hv
    · exact h.ok p hp
theorem snoc_flat {F : Cx} {x : List Vx} : (F ++ [x]).flatten = F.flatten ++ x := by simp
theorem bld_take {F : Cx} {x : List Vx} {i : Nat} (h : i < x.length) : F.flatten ++ x.take (i + 1) = (F.flatten ++ x.take i) ++ [x[i]] := by
  rw [List.take_succ_eq_append_getElem h, List.append_assoc]
abbrev bodyO (bs bm : Nat) (fv : Value) (F : Cx) (M : CarM) (v3 v4 v5 : Value) (s : List Vx) (p : Nat → Prop) (L : Nat → Int) : List HObj :=
  [hStr bs 105 [dX fv, dX (.map (some bm))], hRow fv 22 Verts F, hMC bm kvV M, hVals Verts M, hKnow v3 (dP 1 false (dX (.pointer (some ⟨bs, 0, none⟩)))), hKnow v4 (dP 1 false (dS Verts s)), hKnow v5 (dP 1 false (dLab p L))]
theorem ishl_pow : ∀ n : Fin 9, ishl 1 (n.val : Int) = ((2 ^ n.val : Nat) : Int) := by decide +kernel
theorem SY.shlE {P : Program} {ops : Array Oper} {hp : List HObj} {fr : List Dat} {dst : Option Tmp} {ty : TypeId} {ps : String} {af : Array Edge} {g : Option (Nat × Bool)} {T T2 : TypeId} {x y : Operand} {p q c : Int} (h : ishl p q = c) (h0 : 0 ≤ q) (hx : OpD fr x (dI p)) (hy : OpD fr y (dI q)) : SY P ops hp { dst := dst, op := .binOp .shl T x y T2, type := ty, pos := ps, after := af, guard := g } fr (dI c) := h ▸ SY.shl hx hy h0
theorem SY.subE {P : Program} {ops : Array Oper} {hp : List HObj} {fr : List Dat} {dst : Option Tmp} {ty : TypeId} {ps : String} {af : Array Edge} {g : Option (Nat × Bool)} {T T2 : TypeId} {x y : Operand} {p q c : Int} (h : p - q = c) (h0 : -9223372036854775808 ≤ c ∧ c ≤ 9223372036854775807) (hx : OpD fr x (dI p)) (hy : OpD fr y (dI q)) : SY P ops hp { dst := dst, op := .binOp .sub T x y T2, type := ty, pos := ps, after := af, guard := g } fr (dI c) := h ▸ SY.sub hx hy (h.symm ▸ h0)
theorem perm_bld {a b c d x y z w : HObj} {hp : List HObj} : (a :: b :: c :: d :: x :: y :: z :: w :: hp).Perm (x :: y :: z :: w :: a :: b :: c :: d :: hp) := by
  have h : (([a, b, c, d] ++ [x, y, z, w]) ++ hp).Perm (([x, y, z, w] ++ [a, b, c, d]) ++ hp) := List.Perm.append_right _ List.perm_append_comm
  simpa using h
theorem perm_22 {a b c d : HObj} {hp : List HObj} : (a :: b :: c :: d :: hp).Perm (c :: d :: a :: b :: hp) := by
  have h : (([a, b] ++ [c, d]) ++ hp).Perm (([c, d] ++ [a, b]) ++ hp) := List.Perm.append_right _ List.perm_append_comm
  simpa using h
def divH (bs bm : Nat) (v3 v4 v5 : Value) (s : List Vx) (p : Nat → Prop) (L : Nat → Int) (car : Vx → List Vx) (F : Cx) (pre : List (List Nat)) (hs : List HObj) : Prop :=
  ∃ fv M, Bld (F ++ pre.map (placeL L s)).flatten car M ∧ hs = bodyO bs bm fv (F ++ pre.map (placeL L s)) M v3 v4 v5 s p L
set_option maxHeartbeats 16000000 in
theorem divide_c (bs bm : Nat) (fv0 : Value) (F0 : Cx) (M0 : CarM) (s : List Vx) (p : Nat → Prop) (L : Nat → Int) (car : Vx → List Vx) (hs0 : 0 < s.length) (hs5 : s.length ≤ 5) (hF : F0.length ≤ 100000) (hB : Bld F0.flatten car M0)
    (hpl : ∀ bl ∈ ordP (2 ^ s.length - 1), ∀ i, i < s.length → p (snapsP bl 0 (fun _ => 0) i))
    (hbl : ∀ bl ∈ ordP (2 ^ s.length - 1), ∀ b ∈ bl, b < 1048576)
    (hsn : ∀ bl ∈ ordP (2 ^ s.length - 1), ∀ i, i < s.length → snapsP bl 0 (fun _ => 0) i < 1048576)
    (hcar : ∀ bl ∈ ordP (2 ^ s.length - 1), ∀ (i : Nat) (h : i < (placeL L s bl).length), okV (placeL L s bl)[i] ∧ car (placeL L s bl)[i] = atB s (snapsP bl 0 (fun _ => 0) i)) :
    CallC Tryz.prog 69 ([dX (.pointer (some ⟨bs, 0, none⟩)), dS Verts s, dLab p L] ++ ([] : List Value).map dX) (bldO bs bm fv0 F0 M0)
      (fun _ hp2 => ∃ fv M, Bld (F0 ++ (ordP (2 ^ s.length - 1)).map (placeL L s)).flatten car M ∧ hp2 = bldO bs bm fv (F0 ++ (ordP (2 ^ s.length - 1)).map (placeL L s)) M) := ⟨fun P0 B w0 hp vs W hh hl0 hv => by
  refine (callsIn_wide (n := 0)).1 (callsIn_of_wp_marks Tryz.func69 rfl trivial ?_ rfl)
  refine wpIn_wide.2 ?_
  have hf0 := fr_enter (m := 49) hl0 hv
  have hsz : vs.toArray.size = 3 := by simpa using hl0
  rw [hsz]
  have hnt : Tryz.f69.ntmps = 52 := rfl
  rw [hnt]
  simp only [List.length_cons, List.length_nil, Nat.reduceAdd, Nat.reduceSub, List.replicate_succ, List.replicate_zero, List.cons_append, List.nil_append, List.map_nil] at hf0 hh ⊢
  have hpow : (2 ^ s.length - 1 : Nat) < 32 := by
    have : s.length = 1 ∨ s.length = 2 ∨ s.length = 3 ∨ s.length = 4 ∨ s.length = 5 := by omega
    rcases this with h | h | h | h | h <;> rw [h] <;> decide
  have hpow0 : (2 ^ s.length - 1 : Nat) ≠ 0 := by
    have : 2 ^ 1 ≤ 2 ^ s.length := Nat.pow_le_pow_right (by decide) hs0
    omega
  have hshl := ishl_pow ⟨s.length, by omega⟩
  simp only at hshl
  refine wp_seq (Code.wp_mono ?_ (WC.on (Q := fun e f q => e = .normal ∧ f = [dX (.pointer (some ⟨bs, 0, none⟩)), dS Verts s, dLab p L, dP 1 false (dX (.pointer (some ⟨bs, 0, none⟩))), dP 1 false (dS Verts s), dP 1 false (dLab p L)] ++ List.replicate 46 (dX undef) ∧ q = bldO bs bm fv0 F0 M0 ++ hp) ?_ hh hf0))
  rotate_left
  · ((repeat' (first | refine WL.nil ?_ | refine WC.region ?_ | ((first | apply WL.opN | apply WD.opN); (focus ((first | (apply SY.box; (exact oD); (exact hD)) | fail); all_goals infer_instance)); dsimp only [setD, z0, z1]))); all_goals (first | ((repeat clear hK); (repeat clear Kx))))
    exact ⟨rfl, rfl, rfl⟩
  rintro e a1 w1 ⟨f1, q1, ⟨rfl, rfl, rfl⟩, hh1, hf1⟩
  show Code.wp _ _ _ _ _
  simp only [List.replicate_succ, List.replicate_zero, List.cons_append, List.nil_append] at hf1 hh1
  refine wp_seq (Code.wp_mono ?_ (WC.on (Q := fun e f q => e = .normal ∧ ∃ v3 v4 v5 vr, f = [dX (.pointer (some ⟨bs, 0, none⟩)), dS Verts s, dLab p L, dX v3, dX v4, dX v5, dX undef, dX undef, dX undef, dX undef, dS Verts s, dI (s.length : Int), dI ((2 ^ s.length : Nat) : Int), dI ((2 ^ s.length - 1 : Nat) : Int), dX (.func (.func 113) #[] [vr].toArray)] ++ List.replicate 37 (dX undef)
      ∧ q = bodyO bs bm fv0 F0 M0 v3 v4 v5 s p L ++ ([hKnow vr (dP 1 false (dI ((2 ^ s.length - 1 : Nat) : Int)))] ++ hp)) ?_ hh1 hf1))
  rotate_left
  · ((repeat' (first | ((first | apply WL.opN | apply WD.opN); exact yF; dsimp only [setD, z0, z1]) | refine WL.nil ?_ | refine WC.region ?_ |  (refine WL.callC (hp1 := []) (caps := []) (ordered_k (2 ^ s.length - 1)) Tryz.call61 OpD.f (by (exact aD)) ?_; rintro d' hp2 ⟨vr, rfl, rfl⟩; dsimp only [setD, z0, z1, List.cons_append, List.nil_append]; refine WL.pin 5 rfl fun v5 => ?_; refine WL.pin 4 rfl fun v4 => ?_; refine WL.pin 3 rfl fun v3 => ?_; dsimp only [z0, z1]; refine WL.perm perm_bld ?_) | ((first | apply WL.opN | apply WD.opN); (focus ((first | (exact SY.shlE hshl (by omega) OpD.i (OpD.t rfl)) | (refine SY.subE (c := ((2 ^ s.length - 1 : Nat) : Int)) (by omega) (by omega) (OpD.t rfl) OpD.i) | (apply SY.len; (exact oD); (exact nD); (exact uD)) | fail); all_goals infer_instance)); dsimp only [setD, z0, z1]))); all_goals (first | ((repeat clear hK); (repeat clear Kx))))
    exact ⟨rfl, _, _, _, _, rfl, rfl⟩
  rintro e a2 w2 ⟨f2, q2, ⟨rfl, v3, v4, v5, vr, rfl, rfl⟩, hh2, hf2⟩
  show Code.wp _ _ _ _ _
  simp only [List.replicate_succ, List.replicate_zero, List.cons_append, List.nil_append] at hf2 hh2
  refine wp_block ?_
  refine wp_rangeC (hs0 := bodyO bs bm fv0 F0 M0 v3 v4 v5 s p L) (hk := [hKnow vr (dP 1 false (dI ((2 ^ s.length - 1 : Nat) : Int)))]) (hp := hp) (xs := ordP (2 ^ s.length - 1)) (D := fun bl => dIf (bl ∈ ordP (2 ^ s.length - 1)) (dS Ints (intsB bl))) (divH bs bm v3 v4 v5 s p L car F0) _
    (fun bl => [dX (.pointer (some ⟨bs, 0, none⟩)), dA, dA, dX v3, dX v4, dX v5, dIf (bl ∈ ordP (2 ^ s.length - 1)) (dS Ints (intsB bl)), dX undef, dX undef, dX undef, dA, dX (.int .i64 (s.length : Int)), dX (.int .i64 ((2 ^ s.length : Nat) : Int)), dX (.int .i64 ((2 ^ s.length - 1 : Nat) : Int)), dX (.func (.func 113) #[] [vr].toArray), dIf (bl ∈ ordP (2 ^ s.length - 1)) (dS Ints (intsB bl)), dX undef, dX undef, dX undef, dX undef, dX undef, dX undef, dX undef, dX undef, dX undef, dX undef, dX undef, dX undef, dX undef, dX undef, dX undef, dX undef, dX undef, dX undef, dX undef, dX undef, dX undef, dX undef, dX undef, dX undef, dX undef, dX undef, dX undef, dX undef, dX undef, dX undef, dX undef, dX undef, dX undef, dX undef, dX undef, dX undef]) hh2 hf2 (OpD.t rfl) Tryz.call113 (oseq_c (2 ^ s.length - 1) hpow0 hpow vr) ⟨fv0, M0, by simpa using hB, by simp⟩ (by repeat (first | exact FixF.nil | apply FixF.x | apply FixF.a)) ?_ ?_ ?_
  · intro l bl q
    refine WR.region rfl (I.WL.op rfl (SY.assign (OpD.t rfl)) (I.WL.nil ⟨rfl, rfl, rfl⟩))
  · rintro l pre bl hs q hlt ⟨fv, M, hB1, rfl⟩
    refine WR.know (t := 15) rfl (fun _ _ _ h => h.1) fun hmem => ?_
    rw [dIf_eq hmem]
    have hpre : (F0 ++ pre.map (placeL L s)).length ≤ 1000000 := by
      have := ord_len s.length hs5
      simp; omega
    refine WR.mono (Q := fun e _ q' => e = .normal ∧ ∃ fv' M', Bld ((F0 ++ pre.map (placeL L s)) ++ [placeL L s bl]).flatten car M' ∧ q' = bodyO bs bm fv' ((F0 ++ pre.map (placeL L s)) ++ [placeL L s bl]) M' v3 v4 v5 s p L ++ q) ?_ (fun e f p ⟨he, fv', M', hB', hq⟩ => ⟨he, _, ⟨fv', M', by rw [List.map_append, List.map_cons, List.map_nil, ← List.append_assoc]; exact hB', rfl⟩, by rw [List.map_append, List.map_cons, List.map_nil, ← List.append_assoc]; exact hq⟩)
    generalize F0 ++ pre.map (placeL L s) = F at *
    have hbb := hbl bl hmem
    have hss := hsn bl hmem
    have hpp := hpl bl hmem
    have hcc := hcar bl hmem
    refine WR.perm (List.Perm.swap _ _ _) ?_
    refine WR.block (WR.use 3 rfl (.tail _ (.tail _ (.tail _ (.tail _ (.head _))))) (WR.use 4 rfl (.tail _ (.tail _ (.tail _ (.tail _ (.tail _ (.head _)))))) (WR.use 5 rfl (.tail _ (.tail _ (.tail _ (.tail _ (.tail _ (.tail _ (.head _))))))) ?_)))
    dsimp only [z0, z1]
    (repeat' (first |  (refine WR.drawW (β := Value) 7 (fun v' => hRow v' 22 Verts (F ++ [placeL L s bl]) :: hStr bs 105 [dX fv, dX (.map (some bm))] :: hMC bm kvV M :: hVals Verts M :: hKnow v3 (dP 1 false (dX (.pointer (some ⟨bs, 0, none⟩)))) :: hKnow v4 (dP 1 false (dS Verts s)) :: hKnow v5 (dP 1 false (dLab p L)) :: q) (fun v' => dX v') _ rfl (by kernel_rfl) (by kernel_rfl) rfl ?_; simp only [List.take_succ_cons, List.take_zero, List.drop_succ_cons, List.drop_zero]) | ((first | apply I.WL.opN | apply WD.opN); exact yF; dsimp only [setD, z0, z1]) | refine I.WL.nil ?_ | refine WR.seqK fun Kx hK => ?_ | (refine hK _ _ ?_; clear hK) | refine WR.region rfl ?_ | ((first | apply I.WL.opN | apply WD.opN); (focus ((first | (apply SY.load; exact tyLf; exact OpD.t rfl) | (apply SY.call (facet_p p L s bl (by omega) hbb hpp) Tryz.call64; (exact aD)) | fail); all_goals infer_instance)); dsimp only [setD, z0, z1])))
    (repeat' (first | refine WDs.nil ?_ | (apply WDs.op; (focus (intro c; apply SYG.yes; (exact want_none rfl); ((first | (apply SY.load; exact tyBp; exact OpD.t rfl) | (exact SY.nilCk (OpD.t rfl)) | (refine SY.fldS strB (OpD.t rfl) (by decide)) | (refine SY.loadS tySS (OpD.t rfl) (HH.mem (.tail _ (.head _)) (fun _ => .tail _ (.head _))) rfl) | ((first | apply SY.move | apply SY.assign | apply SY.lss) <;> (exact oD)) | (apply SY.build1'; (exact eD); ((try simp only [List.map_cons, List.map_nil]); (repeat (first | exact ElsD.nl | (apply ElsD.cn; (first | exact OpD.t rfl | exact OpD.i | exact OpD.b | exact OpD.tle rfl (by first | exact Dat.le_nil | exact Dat.le_nilK (by decide)) | exact ⟨Dat.le_nil⟩ | exact ⟨Dat.le_nilK (by decide)⟩))))); rfl; rfl; (intro _; first | exact shape_K | exact shape_I | exact shape_A | exact shape_B); (exact (by simp))) | fail); all_goals infer_instance))); dsimp only [setD, z0, z1])))
    refine ⟨SW.app1 elSi (OpD.t rfl) (OpD.t rfl) (by decide) (by simp; omega), fun v' => ?_⟩
    dsimp only [setD, z0, z1]
    refine I.WL.knowRow (.head _) fun ⟨ad, c, hv'⟩ => ?_
    have hxl : (placeL L s bl).length = s.length := placeL_len L s bl
    (repeat' (first | ((first | apply I.WL.opN | apply WD.opN); exact yF; dsimp only [setD, z0, z1]) | refine I.WL.nil ?_ | refine WR.seqK fun Kx hK => ?_ | (refine hK _ _ ?_; clear hK) | refine WR.region rfl ?_ |  (refine I.WL.perm (List.Perm.swap _ _ _) (I.WL.storeS tySS (OpD.t rfl) (OpD.t rfl) (shape_X (by rw [hv']; rfl)) (by simp) ?_); dsimp only [setD, z0, z1, Nat.add_zero]) | ((first | apply I.WL.opN | apply WD.opN); (focus ((first | (exact SY.nilCk (OpD.t rfl)) | (refine SY.fldS strB (OpD.t rfl) (by decide)) | (apply SY.call (snapshots_p s.length bl (by omega) hbb) Tryz.call117; (exact aD)) | (apply SY.len; (exact oD); (exact nD); (exact uD)) | fail); all_goals infer_instance)); dsimp only [setD, z0, z1]) | refine WR.block ?_))
    rw [rowF_len]
    (refine WR.loopU (X := Nat × CarM) (fun x => [(35, dI (x.1 : Int)), (8, dA), (9, dA), (36, dA), (37, dA), (38, dA), (39, dA), (40, dA), (41, dA), (42, dA), (43, dA), (44, dA), (45, dA), (46, dA), (47, dA), (48, dA), (49, dA), (50, dA), (51, dA)]) (fun x => (hStr bs 105 [dX v', dX (.map (some bm))] :: hRow v' 22 Verts (F ++ [placeL L s bl]) :: hMC bm kvV x.2 :: hVals Verts x.2 :: hKnow v3 (dP 1 false (dX (.pointer (some ⟨bs, 0, none⟩)))) :: hKnow v4 (dP 1 false (dS Verts s)) :: hKnow v5 (dP 1 false (dLab p L)) :: q)) (fun x => s.length - x.1) (fun x => x.1 ≤ s.length ∧ Bld (F.flatten ++ (placeL L s bl).take x.1) car x.2) (0, M) ?start ?frame0 ?objs0 ?round)
    case start => exact ⟨Nat.zero_le _, by simpa using hB1⟩
    case frame0 => ((try dsimp only [upds, z0, z1]); repeat (first | exact LeF.nil | refine LeF.co (k := ?_)))
    case objs0 => rfl
    case round =>
      rintro ⟨i, M1⟩ ⟨g1, g2⟩
      simp only at g1 g2
      dsimp only [upds, z0, z1]
      by_cases hi : i < s.length
      · have hix : i < (placeL L s bl).length := by omega
        obtain ⟨c1, c2⟩ := hcc i hix
        ((repeat' (first |  (apply WR.drawTail 11; kernel_rfl; kernel_rfl; rfl; simp only [List.take_succ_cons, List.take_zero, List.drop_succ_cons, List.drop_zero]) | ((first | apply I.WL.opN | apply WD.opN); exact yF; dsimp only [setD, z0, z1]) | refine I.WL.nil ?_ | refine WD.nil ?_ | refine WR.seqK fun Kx hK => ?_ | (refine hK _ _ ?_; clear hK) | refine WR.region rfl ?_ |  (refine I.WL.perm perm_22 (I.WL.putMC (R := Verts) mapT_car keyT_V (OpD.t rfl) (OpD.t rfl) ⟨fun _ _ _ h => h⟩ (OpD.t rfl) c1 g2.ok g2.nodup fun cv => ?_); refine I.WL.perm perm_22 ?_; dsimp only [setD]) | ((first | apply I.WL.opN | apply WD.opN); (focus ((first | (refine SY.ixF elI (OpD.t rfl) (OpD.t rfl) hi) | (apply SY.load; exact tyBp; exact OpD.t rfl) | (exact SY.nilCk (OpD.t rfl)) | (refine SY.fldS strB (OpD.t rfl) (by decide)) | (refine SY.loadS tyCar (OpD.t rfl) (.head _) rfl) | (refine SY.ixK (R := RV) (_gR := inferInstance) elV (OpD.t rfl) (OpD.t rfl) hix) | (apply SY.call (faceM_p s (snapsP bl 0 (fun _ => 0) i) (by omega) (hss i hi)) Tryz.call88; (exact aD)) | ((first | apply SY.move | apply SY.assign | apply SY.lss) <;> (exact oD)) | ((first | apply SY.add | apply SY.sub) <;> first | exact oD | omega) | fail); all_goals infer_instance)); dsimp only [setD, z0, z1]) | (apply WR.condD; (exact oD); all_goals (intro h; try exact xD)) | refine WR.skip ?_ | refine WR.block ?_ | refine ThenD.n ?_)); all_goals (first | ((repeat clear hK); (repeat clear Kx))))
        all_goals try (exfalso; first | contradiction | omega)
        rw [← c2]
        (refine ⟨(i + 1, putM M1 (placeL L s bl)[i] (cv, car (placeL L s bl)[i])), ?_, by first | omega | (simp only; omega), rfl, ?_⟩; rotate_left; ((try dsimp only [upds, z0, z1]); repeat (first | exact LeF.nil | refine LeF.co (k := ?_))); (try dsimp only))
        exact ⟨by omega, by rw [bld_take hix]; exact g2.put c1 cv⟩
      · ((repeat' (first | refine I.WL.nil ?_ | refine WR.seqK fun Kx hK => ?_ | (refine hK _ _ ?_; clear hK) | refine WR.region rfl ?_ | ((first | apply I.WL.opN | apply WD.opN); (focus ((first | ((first | apply SY.move | apply SY.assign | apply SY.lss) <;> (exact oD)) | fail); all_goals infer_instance)); dsimp only [setD, z0, z1]) | (apply WR.condD; (exact oD); all_goals (intro h; try exact xD)) | refine WR.exit ?_ | refine ThenD.x ?_ | refine InBlockD.x ?_ | refine InBlockD.n ?_)); all_goals (first | ((repeat clear hK); (repeat clear Kx))))
        all_goals try (exfalso; first | contradiction | omega)
        rw [List.take_of_length_le (by omega)] at g2
        exact ⟨rfl, v', M1, by rw [snoc_flat]; exact g2, rfl⟩
  · rintro k hs w3 ⟨fv, M, hB1, rfl⟩ hh3 hrd
    show LeavesInM _ _ _ _ _ _ _ _ _
    rw [hf2.defers]
    have hK : w3.heap[k]? = some (.deferred (some [])) := hh3.ok (hObj k (.deferred (some []))) (by simp)
    refine ⟨by simp, .inl ⟨_, _, rfl, run_takeDeferred hK, _, results_none rfl _ _ _, ?_⟩⟩
    have hh6 := (Hp.putObj (o' := .deferred none) hh3).drop
    obtain ⟨hh7, _⟩ := hh6.perm perm_bld.symm
    exact ⟨_, dA, bldO bs bm fv _ M, rfl, ⟨fv, M, hB1, rfl⟩, hh7.drop.drop.drop.drop, trivial⟩⟩
end Go.Proofs.YtgppfikidagfpaaGreatDoor
namespace Go.Proofs.YtgppfikidagfpaaGreatDoor
def placeP (s : List Vx) (bl : List Nat) : List Vx := s.zipIdx.map fun p => (p.1.1, ((snapsP bl 0 (fun _ => 0) p.2 : Nat) : Int))
theorem place_same {s : List Vx} {bl : List Nat} (h : divN s.length bl 0) : placeP s bl = placeB s bl := by
  unfold placeP placeB
  refine List.map_congr_left fun p hp => ?_
  obtain ⟨q, i⟩ := p
  have hi := (List.mem_zipIdx hp).2.1
  show (q.1, ((snapsP bl 0 (fun _ => 0) i : Nat) : Int)) = _
  rw [snaps_same h (by omega)]
def natsB (l : List Int) : List Nat := l.map Int.toNat
theorem nats_cast (bl : List Nat) : natsB (bl.map fun b : Nat => (b : Int)) = bl := by
  unfold natsB
  rw [List.map_map]
  have e : (Int.toNat ∘ fun b : Nat => (b : Int)) = id := funext fun b => Int.toNat_natCast b
  rw [e, List.map_id]
def facetP (s : List Vx) (l : List Int) : List Vx × Int :=
  if chkV s ≠ 0 then ([], chkV s) else if diffV s = false then ([], 3) else if divP l ((2 ^ s.length - 1 : Nat) : Int) = false then ([], 15) else (placeP s (natsB l), 0)
def facetR (s : List Vx) (l : List Int) : List Vx × Int :=
  if chkV s ≠ 0 then ([], chkV s) else if diffV s = false then ([], 3) else if divR l s.length 0 = false then ([], 15) else (placeB s (natsB l), 0)
theorem facet_same (s : List Vx) (l : List Int) : facetP s l = facetR s l := by
  unfold facetP facetR
  by_cases h0 : chkV s ≠ 0
  · rw [if_pos h0, if_pos h0]
  rw [if_neg h0, if_neg h0]
  by_cases h1 : diffV s = false
  · rw [if_pos h1, if_pos h1]
  rw [if_neg h1, if_neg h1]
  have h8 := (chkV_zero.1 (Classical.byContradiction h0)).2.1
  rw [← div_same (n := s.length) (by omega)]
  cases hd : divR l s.length 0 with
  | false => rw [if_pos rfl, if_pos rfl]
  | true =>
    rw [if_neg (by decide), if_neg (by decide)]
    obtain ⟨bl, rfl, hn⟩ := div_N (n := s.length) (by omega) l 0 (Nat.two_pow_pos _) hd
    rw [nats_cast, place_same hn]
end Go.Proofs.YtgppfikidagfpaaGreatDoor
