/- Part 8: walks by contracts, and plain laws. -/
import Derived.DeepKeys4
import Derived.Test.YtpiidgcljlalmaaVa7
set_option linter.unusedVariables false
set_option linter.unusedSimpArgs false
set_option linter.unusedSectionVars false
namespace Go.Proofs.Ytpiidgcljlalmaa
open Go.RowKit
def chainB2 (md : Region.Mode) (ops : Array Oper) (n : Nat) : Bool :=
  (List.range ops.size).all fun t => decide (t ≤ n) || (List.range ops.size).any fun s => decide (n ≤ s) && Region.waitsFor md ops t s
theorem tail_waits2 {md : Region.Mode} {ops : Array Oper} {n : Nat} {listed : Array Bool} (hs : Region.sinkB md ops n = true) (hc : chainB2 md ops n = true) (hn : n < ops.size) (inv : HeadInv md ops n listed) :
    ∀ (d i : Nat), n - i = d → i < n → listed.getD i true = false → ∀ t, n ≤ t → t ∉ Region.ready md ops listed := by
  intro d
  induction d using Nat.strongRecOn with
  | _ d ih =>
    intro i hd hi hun t ht hr
    obtain ⟨_, ot, hot, hall⟩ := mem_ready.1 hr
    have htlt : t < ops.size := (Array.getElem?_eq_some_iff.1 hot).1
    by_cases htn : t = n
    · subst htn
      have h1 := List.all_eq_true.1 hs i (List.mem_range.2 hi)
      obtain ⟨j, hj, hj2⟩ := List.any_eq_true.1 h1
      simp only [Bool.and_eq_true, decide_eq_true_eq] at hj2
      obtain ⟨oj, hoj, e, he, hb, hon⟩ := Region.waitsFor_spec hj2.2
      have hjle : j ≤ t := by have := List.mem_range.1 hj; omega
      by_cases hjt : j = t
      · subst hjt
        have : oj = ot := Option.some.inj (hoj.symm.trans hot)
        subst this
        have h2 := hall e he hb
        rw [hon, getD_both hun] at h2
        cases h2
      · cases hl : listed.getD j false with
        | true =>
          have h2 := inv.closed j oj hoj hl e he hb
          rw [hon, getD_both hun] at h2
          cases h2
        | false =>
          have hjs : j < listed.size := by rw [inv.size]; omega
          exact ih (t - j) (by omega) j rfl (by omega) (getD_in hjs hl) t (Nat.le_refl _) hr
    · have h1 := List.all_eq_true.1 hc t (List.mem_range.2 htlt)
      simp only [Bool.or_eq_true, decide_eq_true_eq] at h1
      rcases h1 with h1 | h1
      · omega
      · obtain ⟨s, hsr, hsw⟩ := List.any_eq_true.1 h1
        simp only [Bool.and_eq_true, decide_eq_true_eq] at hsw
        obtain ⟨o', ho', e, he, hb, hon⟩ := Region.waitsFor_spec hsw.2
        have : o' = ot := Option.some.inj (ho'.symm.trans hot)
        subst this
        have h2 := hall e he hb
        rw [hon, getD_both (inv.tail s hsw.1 (List.mem_range.1 hsr))] at h2
        cases h2
section
variable {P : Program} {ops : Array Oper} {md : Region.Mode} {fr fr' : List Dat} {hp : List HObj} {C : List HObj → Prop}
def sOpM (P : Program) (ops : Array Oper) (C : List HObj → Prop) (i : Nat) (K : List Dat → List HObj → Prop) (fr : List Dat) (hp : List HObj) : Prop :=
  ∃ o, ops[i]? = some o ∧ ((∃ d, (∀ hp', C hp' → SYG P ops hp' o fr d) ∧ K (setD fr o.dst d) hp) ∨
    ∃ (β : Type) (H : β → List HObj) (D : β → Dat), SW P ops hp H D o fr ∧ (∀ x, C (H x)) ∧ ∀ x, K (setD fr o.dst (D x)) (H x))
def wpAnyM (P : Program) (md : Region.Mode) (ops : Array Oper) (C : List HObj → Prop) (n : Nat) (L : Array Bool → List Dat → List HObj → Prop) : Nat → Array Bool → List Dat → List HObj → Prop
  | 0, listed, fr, hp => L listed fr hp
  | f + 1, listed, fr, hp =>
    Region.ready md ops listed ≠ [] ∧ ∀ i ∈ Region.ready md ops listed, i < n ∧ sOpM P ops C i (wpAnyM P md ops C n L f (listed.setIfInBounds i true)) fr hp
theorem wpAny_of_headM {n g : Nat} {L : Array Bool → List Dat → List HObj → Prop} {Q' : Exit → Act → World → Prop} {P0 : Nat → Prop} {B : Nat} {w0 : World} : ∀ (f : Nat) (listed : Array Bool) (fr : List Dat) (hp : List HObj) (a : Act) (w : World), C hp → Hp P0 B w0 hp w → Fr (Imm P0 B hp) w a fr →
    (∀ listed fr hp a w', Hp P0 B w0 hp w' → Fr (Imm P0 B hp) w' a fr → L listed fr hp → wpAny P md ops Q' g listed a w') → wpAnyM P md ops C n L f listed fr hp → wpAny P md ops Q' (f + g) listed a w
  | 0, listed, fr, hp, a, w, _, hh, hf, hL, h => by rw [Nat.zero_add]; exact hL _ _ _ _ _ hh hf h
  | f + 1, listed, fr, hp, a, w, hc, hh, hf, hL, h => by
    rw [show f + 1 + g = (f + g) + 1 by omega]
    refine ⟨fun h0 => absurd h0 h.1, fun i hi => ?_⟩
    obtain ⟨o, ho, h1⟩ := (h.2 i hi).2
    unfold wpOp
    simp only [ho]
    rcases h1 with ⟨d, hs, hk⟩ | ⟨β, H, D, hw, hC, hk⟩
    · have := (hs hp hc).step (Q := Q') hh hf (K := wpAny P md ops Q' (f + g) (listed.setIfInBounds i true)) fun a' w' e hf' => wpAny_of_headM f _ _ hp _ _ hc (hh.ext e) hf' hL hk
      split
      · rename_i hw; rw [if_pos hw] at this; exact .inl this
      · rename_i hw; rw [if_neg hw] at this; exact this
    · have hwant : Region.wanted o (yielded ops a.tmps) = true := by simp [Region.wanted, hw.guard]
      rw [if_pos hwant]
      exact .inl (hw.out hh (hf.on _) _ _ fun x v w' hh' hrd hd => wpAny_of_headM f _ _ (H x) _ _ (hC x) hh' (Fr.put (hf.mono fun d u hu => hrd d u hu) hd) hL (hk x))
theorem wpAnyM_first {n i : Nat} {oi : Oper} {di : Dat} {L : Array Bool → List Dat → List HObj → Prop} (hi : ops[i]? = some oi)
    (hs : Region.sinkB md ops n = true) (hc : chainB2 md ops n = true) (hn : n < ops.size) (hin : i < n)
    (hdone : ∀ listed a c, L listed a c → ∀ j ∈ Region.ready md ops listed, n ≤ j) :
    ∀ (f : Nat) (listed : Array Bool) (fr : List Dat) (hp : List HObj), HeadInv md ops n listed →
      (∀ j oj, ops[j]? = some oj → j ≠ i → listed.getD j true = false → (∀ e ∈ oj.after, Region.binds md e = true → e.on ≠ i) → oi.apart ops oj = true) →
      i ∈ Region.ready md ops listed → (∀ hp', C hp' → SYG P ops hp' oi fr di) →
      wpAnyM P md ops C n L f (listed.setIfInBounds i true) (setD fr oi.dst di) hp → wpAnyM P md ops C n L (f + 1) listed fr hp := by
  intro f
  induction f with
  | zero =>
    intro listed fr hp inv _ hr hy H
    have hun := (mem_ready.1 hr).1
    refine ⟨fun h => (by rw [h] at hr; cases hr), fun j hj => ?_⟩
    have hjn : j < n := by
      rcases Nat.lt_or_ge j n with h | h
      · exact h
      · exact absurd hj (tail_waits2 hs hc hn inv _ i rfl hin hun j h)
    refine ⟨hjn, ?_⟩
    by_cases hji : j = i
    · subst hji; exact ⟨oi, hi, .inl ⟨di, hy, H⟩⟩
    · have := hdone _ _ _ H j (ready_mono hj hji)
      omega
  | succ f ih =>
    intro listed fr hp inv hfree hr hy H
    have hun := (mem_ready.1 hr).1
    refine ⟨fun h => (by rw [h] at hr; cases hr), fun j hj => ?_⟩
    have hjn : j < n := by
      rcases Nat.lt_or_ge j n with h | h
      · exact h
      · exact absurd hj (tail_waits2 hs hc hn inv _ i rfl hin hun j h)
    refine ⟨hjn, ?_⟩
    by_cases hji : j = i
    · subst hji; exact ⟨oi, hi, .inl ⟨di, hy, H⟩⟩
    · obtain ⟨oj', hoj', h1⟩ := (H.2 j (ready_mono hj hji)).2
      obtain ⟨hjun, oj, hoj, hall⟩ := mem_ready.1 hj
      have hoo : oj = oj' := by rw [hoj] at hoj'; simpa using hoj'
      subst hoo
      have hnot : ∀ e ∈ oj.after, Region.binds md e = true → e.on ≠ i := fun e he hb heq => by
        have h1 := hall e he hb
        rw [heq, getD_both hun] at h1
        cases h1
      obtain ⟨a1, a2, a3⟩ := Oper.apart_spec (hfree j oj hoj hji hjun hnot)
      have hfree' : ∀ k ok, ops[k]? = some ok → k ≠ i → (listed.setIfInBounds j true).getD k true = false →
          (∀ e ∈ ok.after, Region.binds md e = true → e.on ≠ i) → oi.apart ops ok = true := fun k ok hk hki hun hno => by
        refine hfree k ok hk hki ?_ hno
        by_cases hjk : j = k
        · subst hjk; exact hjun
        · rw [getD_set_ne true hjk] at hun; exact hun
      have key : ∀ (d : Dat) (hp' : List HObj), wpAnyM P md ops C n L f ((listed.setIfInBounds i true).setIfInBounds j true) (setD (setD fr oi.dst di) oj.dst d) hp' →
          wpAnyM P md ops C n L (f + 1) (listed.setIfInBounds j true) (setD fr oj.dst d) hp' := fun d hp' hk => by
        refine ih (listed.setIfInBounds j true) (setD fr oj.dst d) hp' (inv.set hj hjn) hfree' (ready_mono hr (Ne.symm hji)) (fun c hc => (hy c hc).same (setD_length _ _ _) fun t ht => setD_other fun e => a3 t e ht) ?_
        rw [Array.setIfInBounds_comm _ _ hji, ← setD_comm fr di d a2]
        exact hk
      refine ⟨oj, hoj, ?_⟩
      rcases h1 with ⟨d, hs', hk⟩ | ⟨β, H', D, hw, hC, hk⟩
      · exact .inl ⟨d, fun c hc => (hs' c hc).same (setD_length _ _ _).symm fun t ht => (setD_other fun e => a1 t e ht).symm, key _ _ hk⟩
      · exact .inr ⟨β, H', D, hw.same (setD_length _ _ _).symm fun t ht => (setD_other fun e => a1 t e ht).symm, hC, fun x => key _ _ (hk x)⟩
def ordB (md : Region.Mode) (ops : Array Oper) (n : Nat) : List (Nat × Bool) → Array Bool → Bool
  | [], listed => (Region.ready md ops listed).all fun j => decide (n ≤ j)
  | (i, false) :: r, listed => decide (i < n) && (Region.ready md ops listed).contains i && Region.free md ops listed i && ordB md ops n r (listed.setIfInBounds i true)
  | (i, true) :: r, listed => decide (i < n) && decide (Region.ready md ops listed = [i]) && ordB md ops n r (listed.setIfInBounds i true)
inductive WM (P : Program) (ops : Array Oper) (C : List HObj → Prop) (Q : List Dat → List HObj → Prop) : List (Nat × Bool) → List Dat → List HObj → Prop
  | nil {fr : List Dat} {hp : List HObj} : Q fr hp → WM P ops C Q [] fr hp
  | read {i : Nat} {o : Oper} {r : List (Nat × Bool)} {fr : List Dat} {hp : List HObj} {d : Dat} : ops[i]? = some o → (∀ hp', C hp' → SYG P ops hp' o fr d) → WM P ops C Q r (setD fr o.dst d) hp → WM P ops C Q ((i, false) :: r) fr hp
  | write {i : Nat} {o : Oper} {r : List (Nat × Bool)} {fr : List Dat} {hp : List HObj} {β : Type} {H : β → List HObj} {D : β → Dat} : ops[i]? = some o → SW P ops hp H D o fr → (∀ x, C (H x)) → (∀ x, WM P ops C Q r (setD fr o.dst (D x)) (H x)) → WM P ops C Q ((i, true) :: r) fr hp
theorem wpAnyM_ord {n : Nat} {Q : List Dat → List HObj → Prop} (hs : Region.sinkB md ops n = true) (hc : chainB2 md ops n = true) (hn : n < ops.size) :
    ∀ (l : List (Nat × Bool)) (listed : Array Bool) (fr : List Dat) (hp : List HObj), HeadInv md ops n listed → ordB md ops n l listed = true → WM P ops C Q l fr hp →
    wpAnyM P md ops C n (fun listed' f p => (∀ j ∈ Region.ready md ops listed', n ≤ j) ∧ listed' = l.foldl (fun s p => s.setIfInBounds p.1 true) listed ∧ Q f p) l.length listed fr hp
  | [], listed, fr, hp, _, hB, h => by
    cases h
    rename_i h
    refine ⟨fun j hj => ?_, rfl, h⟩
    simp only [ordB, List.all_eq_true, decide_eq_true_eq] at hB
    exact hB j hj
  | (i, false) :: r, listed, fr, hp, inv, hB, h => by
    cases h
    rename_i o d ho hy hk
    simp only [ordB, Bool.and_eq_true, decide_eq_true_eq] at hB
    obtain ⟨⟨⟨hin, hr⟩, hf⟩, hB'⟩ := hB
    have hr' : i ∈ Region.ready md ops listed := by simpa using hr
    exact wpAnyM_first ho hs hc hn hin (fun _ _ _ hL => hL.1) r.length listed fr hp inv (Region.free_spec ho hf) hr' hy
      (wpAnyM_ord hs hc hn r _ _ _ (inv.set hr' hin) hB' hk)
  | (i, true) :: r, listed, fr, hp, inv, hB, h => by
    simp only [ordB, Bool.and_eq_true, decide_eq_true_eq] at hB
    obtain ⟨⟨hin, hr⟩, hB'⟩ := hB
    have hr' : i ∈ Region.ready md ops listed := by rw [hr]; simp
    cases h with
    | write ho hw hC hk =>
      refine ⟨fun h0 => (by rw [hr] at h0; cases h0), fun j hj => ?_⟩
      rw [hr] at hj
      cases List.mem_singleton.1 hj
      exact ⟨hin, _, ho, .inr ⟨_, _, _, hw, hC, fun x => wpAnyM_ord hs hc hn r _ _ _ (inv.set hr' hin) hB' (hk x)⟩⟩
theorem WC.drawM {id : Nat} {l : List Oper} {Q : Post} (C : List HObj → Prop) (n m : Nat) (ord : List (Nat × Bool)) (S : List Bool) (hm : P.follows .mixedOrders = true)
    (hB : (decide (n < l.toArray.size) && Region.sinkB .any l.toArray n && chainB2 .any l.toArray n && ordB .any l.toArray n ord (Array.replicate l.toArray.size false)) = true) (hS : ord.foldl (fun s p => s.setIfInBounds p.1 true) (Array.replicate l.toArray.size false) = S.toArray) (hlen : l.length = ord.length + m) (hC : C hp)
    (h : WM P l.toArray C (fun f p => WA P l.toArray Q m S f p) ord fr hp) : WC P Q (.region id l.toArray true) fr hp := by
  refine WC.of fun P0 B w0 w a hh hf => ?_
  simp only [Bool.and_eq_true, decide_eq_true_eq] at hB
  obtain ⟨⟨⟨hn, hs⟩, hc⟩, hord⟩ := hB
  have inv0 : HeadInv .any l.toArray n (Array.replicate l.toArray.size false) :=
    ⟨by simp, fun j oj _ hl => (by rw [getD_replicate_false] at hl; cases hl), fun t _ ht => getD_in (by simpa using ht) (getD_replicate_false _ _)⟩
  have HW := wpAnyM_ord hs hc hn ord _ fr hp inv0 hord h
  have hx : Ext w { w with drawn := w.drawn + 1 } := (Ext.refl w).drew
  refine wp_region_any hm ?_
  have := wpAny_of_headM (Q' := lift Q P0 B w0) (g := m) _ _ _ hp _ _ hC (hh.ext hx) (hf.ext hx) (fun listed' fr' hp' a' w' hh' hf' hL => by
    rw [hL.2.1, hS]
    exact hL.2.2.out _ _ _ _ _ hh' hf') HW
  rw [show l.toArray.size = ord.length + m by simpa using hlen]
  rw [show (l.toArray.size) = ord.length + m by simpa using hlen] at this
  exact this
theorem WM.readL {l : List Oper} {Q : List Dat → List HObj → Prop} {i : Nat} {o : Oper} {r : List (Nat × Bool)} {d : Dat} (ho : l[i]? = some o) (h : ∀ hp', C hp' → SYG P l.toArray hp' o fr d) (k : WM P l.toArray C Q r (setD fr o.dst d) hp) : WM P l.toArray C Q ((i, false) :: r) fr hp := WM.read (by simpa using ho) h k
theorem WM.writeL {l : List Oper} {Q : List Dat → List HObj → Prop} {i : Nat} {o : Oper} {r : List (Nat × Bool)} {β : Type} {H : β → List HObj} {D : β → Dat} (ho : l[i]? = some o) (h : SW P l.toArray hp H D o fr) (hC : ∀ x, C (H x)) (k : ∀ x, WM P l.toArray C Q r (setD fr o.dst (D x)) (H x)) : WM P l.toArray C Q ((i, true) :: r) fr hp := WM.write (by simpa using ho) h hC k
theorem WM.id {Q : List Dat → List HObj → Prop} {r : List (Nat × Bool)} (h : WM P ops C Q r fr hp) : WM P ops C Q r fr hp := h
end
end Go.Proofs.Ytpiidgcljlalmaa
namespace Go.Proofs.Ytpiidgcljlalmaa
open Go.RowKit

def elemPtr (v : Value) (k : Nat) : Value := match v with
  | .slice (some ⟨b, _, _⟩) _ _ => .pointer (some ⟨b, k, none⟩)
  | _ => undef
section
variable {P : Program} {ops : Array Oper} {hp : List HObj} {o : Oper} {fr : List Dat} {d : Dat} {Q : Post} {rest : List Oper}
variable {dst : Option Tmp} {ty : TypeId} {ps : String} {af : Array Edge} {g : Option (Nat × Bool)} {e e' t T : TypeId} {bytes : Nat} {z : Value} {ag : Bool} {α : Type} {R : Rel α} {xs : List α} {v : Value}
theorem own_row {I : Nat → Prop} {w : World} (h : Own 0 e R I w v xs) {k : Nat} (hk : k < xs.length) : ∃ (b cap : Nat) (us : List Value), v = .slice (some ⟨b, 0, none⟩) xs.length cap ∧ us.length = xs.length ∧ ∃ (hu : k < us.length), us[k].oneCell' = true ∧ R (fun j => I j ∧ v.ownBlock ≠ some j) w us[k] xs[k] ∧ w.cell? ⟨b, k, none⟩ = some us[k] := by
  obtain ⟨us, h1, ⟨h2, h3⟩, h4⟩ := h
  rcases h3 with ⟨_, hz⟩ | ⟨g, cap, cur, hv, hB, hg, hc1, hc2, hc3, hc4⟩
  · omega
  · have hu : k < us.length := by omega
    refine ⟨g, cap, us, hv, h1, hu, (h4 k hu hk).1, (h4 k hu hk).2, ?_⟩
    rw [Nat.mul_one] at hc3 hc4
    have hkc : k < cur.size := by omega
    have : cur[k] = us[k] := by
      have e1 : us[k]? = (cur.toList.take xs.length)[k]? := by rw [hc4]
      rw [List.getElem?_take_of_lt hk, List.getElem?_eq_getElem hu] at e1
      simpa [hkc] using e1.symm
    simp [World.cell?, hg, hkc, this]
theorem SY.ixR {_gR : Good R} {x i : Operand} {k : Nat} {j : Int} (E : ElT P t e 1 z bytes ag) (hx : OpD fr x (dX v)) (hm : hRow v e' R xs ∈ hp) (hi : OpD fr i (dI j)) (hj : j = (k : Int)) (hk : k < xs.length) :
    SY P ops hp { dst := dst, op := .indexAddr t x i, type := ty, pos := ps, after := af, guard := g } fr (dX (elemPtr v k)) := SY.valE fun {P0 B w0 w a} hh ho => by
  have h1 : a.eval x = v := hx.get (by simp [Op.operands]) ho
  have h2 : a.eval i = _ := hi.get (by simp [Op.operands]) ho
  obtain ⟨b, cap, us, hv, _⟩ := own_row (hh.ok _ hm) hk
  refine ⟨.pointer (some ⟨b, 0 + k * 1, none⟩), w, ?_, Ext.refl _, ?_⟩
  · unfold execOp
    simp only [h1, hv, h2, hj, Sem.run_bind, run_indexAt (w := w) E b 0 xs.length cap k .i64 hk, Result.andThen_ok, Sem.run_pure]
  · show _ = elemPtr v k
    rw [hv]; simp [elemPtr]
theorem SY.loadR {_gR : Good R} {x : Operand} {k : Nat} (T' : TyI P T 1 false) (hx : OpD fr x (dX (elemPtr v k))) (hm : hRow v e' R xs ∈ hp) (hk : k < xs.length) :
    SY P ops hp { dst := dst, op := .load T x, type := ty, pos := ps, after := af, guard := g } fr (dS R xs[k]) := SY.valE fun {P0 B w0 w a} hh ho => by
  have h1 : a.eval x = elemPtr v k := hx.get (by simp [Op.operands]) ho
  obtain ⟨b, cap, us, hv, hl, hu, o1, o2, o3⟩ := own_row (hh.ok _ hm) hk
  have hc : Cells (fun _ => True) w b k 1 false us[k] := by
    refine ⟨trivial, [us[k]], rfl, by decide, ?_, fun i c hc => ?_, rfl⟩
    · intro c hc; rw [List.mem_singleton.1 hc]; exact o1
    · have hi : i = 0 := by
        have := (List.getElem?_eq_some_iff.1 hc).1
        simp at this; exact this
      subst hi
      cases hc
      exact o3
  have h1' : a.eval x = .pointer (some ⟨b, k, none⟩) := by rw [h1, hv]; rfl
  refine ⟨us[k], w, ?_, Ext.refl _, Good.weak o2 fun j hj => hj.1⟩
  unfold execOp
  simp only [h1', Sem.run_bind, run_loadC T' hc, Result.andThen_ok, Sem.run_pure]
theorem own_set [Good R] {I : Nat → Prop} {w : World} {k : Nat} (hv : Own 0 e R I w v xs) (hk : k < xs.length) {u : Value} (hu1 : u.oneCell' = true) {y : α} (hu : R (fun b => I b ∧ v.ownBlock ≠ some b) w u y) :
    ∃ g cap, v = .slice (some ⟨g, 0, none⟩) xs.length cap ∧ (store ((⟨g, k, none⟩ : Addr).add 0) u).run P w = .ok () (w.setCell ⟨g, k, none⟩ u) ∧ Own 0 e R I (w.setCell ⟨g, k, none⟩ u) v (xs.set k y) ∧ w.grownBy (w.setCell ⟨g, k, none⟩ u) (some g) ∧ v.ownBlock = some g := by
  obtain ⟨us, hl, ⟨hul, ho⟩, he⟩ := hv
  rcases ho with ⟨rfl, h0⟩ | ⟨g, cap, cur, rfl, hB, hg, hn, hm, hs, ht⟩
  · omega
  · rw [Nat.mul_one] at hs ht
    have hkc : k < cur.size := by omega
    have hset := setCell_eq_setRow w g k cur e (0, 0) u hg
    have hc : w.cell? ⟨g, k, none⟩ = some cur[k] := by simp [World.cell?, hg, hkc]
    have hf : w.frozen? ⟨g, k, none⟩ = false := by simp [World.frozen?, hg]
    have hgr : w.grownBy (w.setRow g (cur.setIfInBounds k u)) (some g) := grown_setRow
    refine ⟨g, cap, rfl, ?_, ⟨us.set k u, by simp [hl], ⟨by simp [hul], .inr ⟨g, cap, cur.setIfInBounds k u, by simp, hB, ?_, by simpa using hn, hm, by simpa using hs, ?_⟩⟩, ?_⟩, by rw [hset]; exact hgr, rfl⟩
    · rw [show ((⟨g, k, none⟩ : Addr).add 0) = ⟨g, k, none⟩ from rfl, run_store P w _ u _ hu1, hc]
      simp [hf]
    · rw [hset]; exact setRow_heap w g cur _ e _ hg
    · simp only [List.length_set, Nat.mul_one, Array.toList_setIfInBounds]
      rw [← ht, List.take_set]
    · intro j h1 h2
      simp only [List.length_set] at h1 h2
      rw [List.getElem_set, List.getElem_set, hset]
      by_cases hkj : k = j
      · rw [if_pos hkj, if_pos hkj]
        exact ⟨hu1, Good.grown hu hgr (fun r hr hc => hc.2 (by cases hr; rfl))⟩
      · rw [if_neg hkj, if_neg hkj]
        exact ⟨(he j h1 h2).1, Good.grown (he j h1 h2).2 hgr (fun r hr hc => hc.2 (by cases hr; rfl))⟩
theorem WL.storeR {_gR : Good R} {p : Tmp} {x : Operand} {k : Nat} {y : α} (T' : TyI P T 1 false) (hp0 : OpD fr (.tmp p) (dX (elemPtr v k))) (hx : OpD fr x (dS R y)) (hs : (dS R y).Shape 1 false) (hk : k < xs.length)
    (h : WL P ops Q rest (setD fr dst dA) (hRow v e R (xs.set k y) :: hp)) : WL P ops Q ({ dst := dst, op := .store T (.tmp p) x, type := ty, pos := ps, after := af, guard := none } :: rest) fr (hRow v e R xs :: hp) := by
  refine WL.of fun P0 B w0 w a hh hf => ?_
  have hok := hh.ok (hRow v e R xs) (by simp)
  have hy : R (Imm P0 B (hRow v e R xs :: hp)) w (a.eval x) y := hx.ev hf
  obtain ⟨cs, k1, k0, k2, k3, k4⟩ := hs _ _ _ hy
  have h1 : a.eval (.tmp p) = elemPtr v k := hp0.ev hf
  have hone : (a.eval x).oneCell' = true := by
    have : cs = [a.eval x] := by simpa using k4
    subst this
    exact k2 _ (by simp)
  have hy' : R (fun j => (Imm P0 B (hRow v e R xs :: hp) j ∧ j < w.heap.size) ∧ v.ownBlock ≠ some j) w (a.eval x) y :=
    Good.weak (Good.bound hy) fun j hj => ⟨hj, hj.1.2 (hRow v e R xs) (by simp)⟩
  obtain ⟨b, cap, hv, hst, hok', hgr, hob⟩ := own_set (P := P) ((hRow v e R xs).bound hok) hk hone hy'
  have hrun : (execOp a.eval { dst := dst, op := .store T (.tmp p) x, type := ty, pos := ps, after := af, guard := none }).run P w = .ok .skip (w.setCell ⟨b, k, none⟩ (a.eval x)) := by
    have he : a.eval (.tmp p) = .pointer (some ⟨b, k, none⟩) := by rw [h1, hv]; rfl
    unfold execOp
    have hsz : (sizeOf T).run P w = .ok 1 w := by
      have h5 := T'.size
      cases hq : P.info? T with
      | none => rw [hq] at h5; cases h5
      | some i =>
        rw [hq] at h5
        have : i.size = 1 := by simpa using h5
        rw [← this]
        rw [run_sizeOf w hq]
        simp [Program.cellsOf, hq]
    simp only [he, Instr.storeAt, Instr.sureAddr, storeVar, Sem.run_bind, hsz, Result.andThen_ok, Sem.run_pure]
    simp [cells_one hone, storeCells, hst]
  refine wpList_plain rfl fun K hK => ?_
  unfold Oper.wp
  rw [hrun]
  have hgr' : w.grownBy (w.setCell ⟨b, k, none⟩ (a.eval x)) (hRow v e R xs).blk := by
    show w.grownBy _ v.ownBlock
    rw [hob]; exact hgr
  exact hK _ _ (h.on (hh.write hgr' (.inl rfl) hok') (Fr.put (hf.mono fun _ _ hd => Hp.written (o' := hRow v e R (xs.set k y)) hgr' (.inl rfl) hd) (d := dA) trivial))
end
section
variable {P : Program} {f : FuncId} {ds : List Dat} {hp1 : List HObj} {K K' : Dat → List HObj → Prop}
theorem Hp.drops {P0 : Nat → Prop} {B : Nat} {w0 w : World} : ∀ (junk hp : List HObj), Hp P0 B w0 (junk ++ hp) w → Hp P0 B w0 hp w
  | [], _, h => h
  | _ :: junk, hp, h => Hp.drops junk hp (Hp.drop h)
theorem CallC.drops (h : CallC P f ds hp1 K) (hK : ∀ d hp2, K d hp2 → ∃ junk hp3, hp2.Perm (junk ++ hp3) ∧ K' d hp3) : CallC P f ds hp1 K' := ⟨fun P0 B w0 hp vs W hh hl hv => by
  refine Calls.mono (h.out P0 B w0 hp vs W hh hl hv) fun e W' ⟨v, d, hp2, he, hk, hh2, hd⟩ => ?_
  obtain ⟨junk, hp3, hperm, hk3⟩ := hK d hp2 hk
  obtain ⟨h3, h4⟩ := hh2.perm (hperm.append_right hp)
  rw [List.append_assoc] at h3 h4
  refine ⟨v, d, hp3, he, hk3, Hp.drops junk _ h3, d.weak hd fun k hk => ?_⟩
  have := (h4 k).1 hk
  exact ⟨this.1, fun o ho => this.2 o (List.mem_append.2 (.inr ho))⟩⟩
end
end Go.Proofs.Ytpiidgcljlalmaa
namespace Go.Proofs.Ytpiidgcljlalmaa
open Go.RowKit

def entriesM : Nat → List (Value × Value) → List MapEntry
  | _, [] => []
  | i, p :: m => ⟨p.1, p.2, i⟩ :: entriesM (i + 1) m
def mapObj (m : List (Value × Value)) : Obj := .map (entriesM 0 m).toArray m.length
structure KeyT (P : Program) (k : TypeId) {K : Type} (kv : K → Value) (ok : K → Prop) : Prop where
  law : Go.Maps.Keyed P k
  lit : ∀ x, ok x → ∃ l, keyOf P k (kv x) = some l
  inj : ∀ x y, ok x → ok y → kv x = kv y → x = y
structure MapT (P : Program) (t k e : TypeId) (z : Value) : Prop where
  under : P.underlying t = some (.map k e)
  zero : ∀ w, (zeroValue e).run P w = .ok z w
section
variable {P : Program} {k t e : TypeId} {z : Value} {K V : Type} {kv : K → Value} {ok : K → Prop} {vv : V → Value}
def encM (kv : K → Value) (vv : V → Value) (m : List (K × V)) : List (Value × Value) := m.map fun p => (kv p.1, vv p.2)
end
end Go.Proofs.Ytpiidgcljlalmaa
namespace Go.Proofs.Ytpiidgcljlalmaa
open Go.RowKit

abbrev hM {K V : Type} (b : Nat) (kv : K → Value) (vv : V → Value) (m : List (K × V)) : HObj := hObj b (mapObj (encM kv vv m))
structure IsV (d : Dat) (v : Value) : Prop where
  is : ∀ (I : Nat → Prop) (w : World) (u : Value), d.rd I w u → u = v
theorem isX {v : Value} : IsV (dX v) v := ⟨fun _ _ _ h => h⟩
theorem isI {n : Int} : IsV (dI n) (.int .i64 n) := ⟨fun _ _ _ h => h⟩
theorem isB {b : Bool} : IsV (dB b) (.bool b) := ⟨fun _ _ _ h => h⟩
section
variable {P : Program} {ops : Array Oper} {hp : List HObj} {o : Oper} {fr : List Dat} {d d2 : Dat} {Q : Post} {rest : List Oper}
variable {dst : Option Tmp} {ty : TypeId} {ps : String} {af : Array Edge} {g : Option (Nat × Bool)} {t k e : TypeId} {z : Value} {K V : Type} {kv : K → Value} {ok : K → Prop} {vv : V → Value} {b : Nat} {m : List (K × V)}
theorem WL.makeMap (kv : K → Value) (vv : V → Value) (h : ∀ b, WL P ops Q rest (setD fr dst (dX (.map (some b)))) (hM b kv vv [] :: hp)) :
    WL P ops Q ({ dst := dst, op := .makeMap t none, type := ty, pos := ps, after := af, guard := none } :: rest) fr hp := by
  refine WL.of fun P0 B w0 w a hh hf => ?_
  have hrun : (execOp a.eval { dst := dst, op := .makeMap t none, type := ty, pos := ps, after := af, guard := none }).run P w = .ok (.value (.map (some w.heap.size))) (w.alloc (mapObj [])) := by
    unfold execOp
    simp [Instr.makeMap, mapObj, entriesM]
  refine wpList_value rfl hrun ?_
  have hx := Ext.of_alloc w (mapObj [])
  have hb : ∀ k, (hM w.heap.size kv vv []).blk = some k → w.heap.size ≤ k ∧ k < (w.alloc (mapObj [])).heap.size := fun k hk => by
    cases hk
    exact ⟨Nat.le_refl _, by simp⟩
  refine (h w.heap.size).on (hh.push hx hb (alloc_get w _)) ?_
  exact Fr.put (hf.mono fun d _ hd => Hp.pushed hx (fun k hk => (hb k hk).1) hd) rfl
end
end Go.Proofs.Ytpiidgcljlalmaa
