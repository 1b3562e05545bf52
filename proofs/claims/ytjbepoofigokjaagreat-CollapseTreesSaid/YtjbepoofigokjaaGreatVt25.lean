/-
  Part 25 of the texts that the claims of this seat lean on: walks of the program's functions by contracts over symbolic frames, and plain laws of what they compute. No condition.
-/
import Derived.Test.YtjbepoofigokjaaGreatVt22
import Derived.Test.YtjbepoofigokjaaGreatVt24
set_option linter.unusedVariables false
set_option linter.unusedSimpArgs false
set_option linter.unusedSectionVars false
namespace Go.Proofs.YtjbepoofigokjaaGreat
def shareB (s t : List Vx) : Bool := decide (0 < (sharedV s t true).length)
theorem share_iff {s t : List Vx} : shareB s t = true ↔ ∃ v, v ∈ s ∧ v ∈ t := by
  unfold shareB sharedV
  rw [decide_eq_true_iff, List.length_pos_iff_exists_mem]
  constructor
  · rintro ⟨v, hv⟩
    have := List.mem_filter.1 hv
    exact ⟨v, this.1, by simpa using this.2⟩
  · rintro ⟨v, h1, h2⟩
    exact ⟨v, List.mem_filter.2 ⟨h1, by simpa using h2⟩⟩
def outN (l : Cx) (i : Nat) : List Int := l.map fun s => if rootC l s ∈ distG ((rootsC l).take i) then (numC l s : Int) else -1
def nextN (l : Cx) (i : Nat) : Nat := (distG ((rootsC l).take i)).length
theorem outN_len (l : Cx) (i : Nat) : (outN l i).length = l.length := by simp [outN]
theorem outN_at {l : Cx} {i t : Nat} (h : t < l.length) (h' : t < (outN l i).length) : (outN l i)[t] = if rootC l l[t] ∈ distG ((rootsC l).take i) then (numC l l[t] : Int) else -1 := by simp [outN]
theorem roots_at {l : Cx} {i : Nat} (h : i < l.length) : (rootsC l)[i]'(by simpa [rootsC] using h) = rootC l l[i] := by simp [rootsC]
theorem dist_next {l : Cx} {i : Nat} (h : i < l.length) : distG ((rootsC l).take (i + 1)) = if rootC l l[i] ∈ distG ((rootsC l).take i) then distG ((rootsC l).take i) else distG ((rootsC l).take i) ++ [rootC l l[i]] := by
  have := dist_snoc (rs := rootsC l) (k := i) (by simpa [rootsC] using h)
  rw [roots_at h] at this
  by_cases hm : rootC l l[i] ∈ distG ((rootsC l).take i)
  · rw [if_pos hm] at this ⊢; exact this
  · rw [if_neg hm] at this ⊢; exact this
theorem num_of_mem {l : Cx} {i : Nat} {s : List Vx} (h : rootC l s ∈ distG ((rootsC l).take i)) : numC l s < nextN l i := by
  obtain ⟨t, ht⟩ := dist_pre ((rootsC l).take i) ((rootsC l).drop i)
  rw [List.take_append_drop] at ht
  unfold numC nextN
  rw [ht, idx_app_mem h]
  exact idx_lt h
theorem outN_new {l : Cx} {i : Nat} (h : i < l.length) (h' : i < (outN l i).length) (h0 : (outN l i)[i] < 0) : rootC l l[i] ∉ distG ((rootsC l).take i) ∧ nextN l (i + 1) = nextN l i + 1 ∧ numC l l[i] = nextN l i := by
  rw [outN_at h] at h0
  have hm : rootC l l[i] ∉ distG ((rootsC l).take i) := fun h1 => by rw [if_pos h1] at h0; omega
  refine ⟨hm, ?_, ?_⟩
  · unfold nextN
    rw [dist_next h, if_neg hm, List.length_append]; rfl
  · rw [num_at h, idx_none hm]; rfl
structure Mid (l : Cx) (i : Nat) (o : List Int) : Prop where
  len : o.length = l.length
  each : ∀ (t : Nat) (h : t < l.length) (h' : t < o.length), o[t] = (outN l i)[t]'(by rw [outN_len]; exact h) ∨ (o[t] = (nextN l i : Int) ∧ ∃ hi : i < l.length, rootC l l[t] = rootC l l[i])
  own : ∀ (h' : i < o.length), o[i] = (nextN l i : Int)
theorem outN_lt {l : Cx} {i t : Nat} (h : t < l.length) (h' : t < (outN l i).length) : (outN l i)[t] < (nextN l i : Int) ∧ -1 ≤ (outN l i)[t] := by
  rw [outN_at h]
  by_cases h1 : rootC l l[t] ∈ distG ((rootsC l).take i)
  · rw [if_pos h1]
    have := num_of_mem h1
    omega
  · rw [if_neg h1]; omega
theorem Mid.start {l : Cx} {i : Nat} (h : i < l.length) : Mid l i ((outN l i).set i (nextN l i : Int)) :=
  ⟨by rw [List.length_set, outN_len], fun t h1 h2 => by
    rw [List.getElem_set]
    by_cases hit : i = t
    · subst hit; rw [if_pos rfl]; exact .inr ⟨rfl, h, rfl⟩
    · rw [if_neg hit]; exact .inl rfl, fun h' => by rw [List.getElem_set, if_pos rfl]⟩
theorem Mid.root {l : Cx} {i : Nat} {o : List Int} (M : Mid l i o) {t : Nat} (h : t < l.length) (h' : t < o.length) (hi : i < l.length) (ho : o[t] = (nextN l i : Int)) : rootC l l[t] = rootC l l[i] := by
  rcases M.each t h h' with h1 | ⟨_, _, h2⟩
  · have := (outN_lt (i := i) h (by rw [outN_len]; exact h)).1
    omega
  · exact h2
theorem Mid.set {l : Cx} {i : Nat} {o : List Int} (M : Mid l i o) (hi : i < l.length) {j k : Nat} (hj : j < l.length) (hk : k < l.length) (hk' : k < o.length) (ho : o[k] = (nextN l i : Int)) (hs : shareB l[j] l[k] = true) : Mid l i (o.set j (nextN l i : Int)) :=
  ⟨by rw [List.length_set, M.len], fun t h1 h2 => by
    have h2' : t < o.length := by simpa using h2
    rw [List.getElem_set]
    by_cases hjt : j = t
    · subst hjt
      rw [if_pos rfl]
      obtain ⟨v, v1, v2⟩ := share_iff.1 hs
      refine .inr ⟨rfl, hi, ?_⟩
      rw [root_shared (List.getElem_mem hj) (List.getElem_mem hk) v1 v2]
      exact M.root hk hk' hi ho
    · rw [if_neg hjt]; exact M.each t h1 h2', fun h' => by
    rw [List.getElem_set]
    by_cases hji : j = i
    · rw [if_pos hji]
    · rw [if_neg hji]; exact M.own _⟩
def Shut (l : Cx) (i : Nat) (o : List Int) (j k : Nat) : Prop := ∀ (h1 : j < l.length) (h2 : k < l.length) (h3 : j < o.length) (h4 : k < o.length), o[j] < 0 → o[k] = (nextN l i : Int) → shareB l[j] l[k] = false
theorem Mid.fin {l : Cx} {i : Nat} {o : List Int} (M : Mid l i o) (hne : ∀ s ∈ l, 0 < s.length) (hi : i < l.length) (h0 : (outN l i)[i]'(by rw [outN_len]; exact hi) < 0) (hc : ∀ j k, j < l.length → k < l.length → Shut l i o j k) : o = outN l (i + 1) := by
  obtain ⟨n1, n2, n3⟩ := outN_new hi (by rw [outN_len]; exact hi) h0
  have hlen := M.len
  have key : ∀ {w : Vx}, Conn (edgC l) (hdV l[i]) w → ∃ (k : Nat) (h1 : k < l.length) (h2 : k < o.length), o[k] = (nextN l i : Int) ∧ w ∈ l[k] := by
    intro w hw
    induction hw with
    | refl => exact ⟨i, hi, by omega, M.own _, hd_mem (hne _ (List.getElem_mem hi))⟩
    | step h e ih =>
      rename_i v w
      obtain ⟨k, k1, k2, k3, k4⟩ := ih
      have hf : ∃ f ∈ l, v ∈ f ∧ w ∈ f := by
        rcases e with e | e
        · obtain ⟨f, hf, e1, e2⟩ := edgC_mem.1 e
          have e1' : v = hdV f := e1
          exact ⟨f, hf, e1' ▸ hd_mem (hne f hf), List.mem_of_mem_drop e2⟩
        · obtain ⟨f, hf, e1, e2⟩ := edgC_mem.1 e
          have e1' : w = hdV f := e1
          exact ⟨f, hf, List.mem_of_mem_drop e2, e1' ▸ hd_mem (hne f hf)⟩
      obtain ⟨f, hf, f1, f2⟩ := hf
      obtain ⟨g, hg, rfl⟩ := List.getElem_of_mem hf
      refine ⟨g, hg, by omega, ?_, f2⟩
      rcases M.each g hg (by omega) with h5 | ⟨h5, _⟩
      · exfalso
        have hr : rootC l l[g] = rootC l l[i] := by
          rw [← rep_in hf f1]
          exact ((conn_iff (edgC l) _ _).2 h).symm
        rw [outN_at hg, hr, if_neg n1] at h5
        have h6 := hc g k hg k1 hg k1 (by omega) k2 (by omega) k3
        have h7 : shareB l[g] l[k] = true := share_iff.2 ⟨v, f1, k4⟩
        rw [h6] at h7; cases h7
      · exact h5
  apply List.ext_getElem (by rw [hlen, outN_len])
  intro t t1 t2
  have ht : t < l.length := by omega
  rw [outN_at ht, dist_next hi, if_neg n1]
  by_cases hr : rootC l l[t] = rootC l l[i]
  · rw [if_pos (by rw [hr]; simp)]
    have hn : numC l l[t] = nextN l i := by rw [← n3]; unfold numC; rw [hr]
    rw [hn]
    rcases M.each t ht t1 with h5 | ⟨h5, _⟩
    · exfalso
      rw [outN_at ht, hr, if_neg n1] at h5
      obtain ⟨k, k1, k2, k3, k4⟩ := key ((conn_iff (edgC l) (hdV l[i]) (hdV l[t])).1 hr.symm)
      have h6 := hc t k ht k1 ht k1 t1 k2 (by omega) k3
      have h7 : shareB l[t] l[k] = true := share_iff.2 ⟨_, hd_mem (hne _ (List.getElem_mem ht)), k4⟩
      rw [h6] at h7; cases h7
    · exact h5
  · have hm : (rootC l l[t] ∈ distG ((rootsC l).take i) ++ [rootC l l[i]]) ↔ rootC l l[t] ∈ distG ((rootsC l).take i) := by
      rw [List.mem_append, List.mem_singleton]
      exact ⟨fun h => h.resolve_right hr, .inl⟩
    rcases M.each t ht t1 with h5 | ⟨_, _, h6⟩
    · rw [h5, outN_at ht]
      by_cases h7 : rootC l l[t] ∈ distG ((rootsC l).take i)
      · rw [if_pos h7, if_pos (hm.2 h7)]
      · rw [if_neg h7, if_neg fun h => h7 (hm.1 h)]
    · exact absurd h6 hr
end Go.Proofs.YtjbepoofigokjaaGreat
namespace Go.Proofs.YtjbepoofigokjaaGreat
open Go.RowKit
section
variable {P : Program} {ops : Array Oper} {md : Region.Mode} {fr fr' : List Dat} {hp : List HObj} {C : List HObj → Prop}
def rdB (md : Region.Mode) (ops : Array Oper) (n : Nat) : List Nat → Array Bool → Bool
  | [], _ => true
  | i :: r, listed => decide (i < n) && (Region.ready md ops listed).contains i && Region.free md ops listed i && rdB md ops n r (listed.setIfInBounds i true)
inductive WRd (P : Program) (ops : Array Oper) (C : List HObj → Prop) (Q : List Dat → Prop) : List Nat → List Dat → Prop
  | nil {fr : List Dat} : Q fr → WRd P ops C Q [] fr
  | read {i : Nat} {o : Oper} {r : List Nat} {fr : List Dat} {d : Dat} : ops[i]? = some o → (∀ hp', C hp' → SYG P ops hp' o fr d) → WRd P ops C Q r (setD fr o.dst d) → WRd P ops C Q (i :: r) fr
theorem wpAnyM_rd {n f0 : Nat} {L : Array Bool → List Dat → List HObj → Prop} {Q : List Dat → Prop} (hs : Region.sinkB md ops n = true) (hc : chainB2 md ops n = true) (hn : n < ops.size) (hdone : ∀ listed a c, L listed a c → ∀ j ∈ Region.ready md ops listed, n ≤ j) :
    ∀ (l : List Nat) (listed : Array Bool) (fr : List Dat), HeadInv md ops n listed → rdB md ops n l listed = true → WRd P ops C Q l fr → (∀ fr', Q fr' → HeadInv md ops n (l.foldl (fun s i => s.setIfInBounds i true) listed) → wpAnyM P md ops C n L f0 (l.foldl (fun s i => s.setIfInBounds i true) listed) fr' hp) →
    wpAnyM P md ops C n L (f0 + l.length) listed fr hp
  | [], listed, fr, inv, _, h, hk => by
    cases h
    rename_i h
    exact hk _ h inv
  | i :: r, listed, fr, inv, hB, h, hk => by
    cases h
    rename_i o d ho hy hr
    simp only [rdB, Bool.and_eq_true, decide_eq_true_eq] at hB
    obtain ⟨⟨⟨hin, hrd⟩, hf⟩, hB'⟩ := hB
    have hr' : i ∈ Region.ready md ops listed := by simpa using hrd
    have := wpAnyM_first ho hs hc hn hin hdone (f0 + r.length) listed fr hp inv (Region.free_spec ho hf) hr' hy (wpAnyM_rd hs hc hn hdone r _ _ (inv.set hr' hin) hB' hr hk)
    rw [List.length_cons, ← Nat.add_assoc]
    exact this
structure W2 (P : Program) (ops : Array Oper) (C : List HObj → Prop) (R : List Dat → List HObj → Prop) (i j : Nat) (fr : List Dat) (hp : List HObj) : Prop where
  out : ∃ oi oj, ops[i]? = some oi ∧ ops[j]? = some oj ∧ ∃ (β : Type) (H : β → List HObj) (D : β → Dat), SW P ops hp H D oi fr ∧ (∀ x, C (H x)) ∧ ∀ x, ∃ (γ : Type) (H2 : γ → List HObj) (D2 : γ → Dat), SW P ops (H x) H2 D2 oj (setD fr oi.dst (D x)) ∧ (∀ y, C (H2 y)) ∧ ∀ y, R (setD (setD fr oi.dst (D x)) oj.dst (D2 y)) (H2 y)
theorem W2.mk' {R : List Dat → List HObj → Prop} {i j : Nat} {oi oj : Oper} {l : List Oper} (hi : l[i]? = some oi) (hj : l[j]? = some oj) {β : Type} {H : β → List HObj} {D : β → Dat} (h : SW P l.toArray hp H D oi fr) (hC : ∀ x, C (H x)) {γ : Type} {H2 : β → γ → List HObj} {D2 : β → γ → Dat}
    (h2 : ∀ x, SW P l.toArray (H x) (H2 x) (D2 x) oj (setD fr oi.dst (D x))) (hC2 : ∀ x y, C (H2 x y)) (k : ∀ x y, R (setD (setD fr oi.dst (D x)) oj.dst (D2 x y)) (H2 x y)) : W2 P l.toArray C R i j fr hp :=
  ⟨oi, oj, by simpa using hi, by simpa using hj, β, H, D, h, hC, fun x => ⟨γ, H2 x, D2 x, h2 x, hC2 x, k x⟩⟩
theorem wpAnyM_w2 {n i j : Nat} {R : List Dat → List HObj → Prop} {listed : Array Bool} {S : Array Bool} (hi : i < n) (hj : j < n) (hr : Region.ready md ops listed = [i, j]) (hri : Region.ready md ops (listed.setIfInBounds i true) = [j]) (hrj : Region.ready md ops (listed.setIfInBounds j true) = [i])
    (hS : (listed.setIfInBounds i true).setIfInBounds j true = S) (hS' : (listed.setIfInBounds j true).setIfInBounds i true = S) (hfin : ∀ k ∈ Region.ready md ops S, n ≤ k) (h1 : W2 P ops C R i j fr hp) (h2 : W2 P ops C R j i fr hp) :
    wpAnyM P md ops C n (fun listed' f p => (∀ k ∈ Region.ready md ops listed', n ≤ k) ∧ listed' = S ∧ R f p) 2 listed fr hp := by
  refine ⟨fun h0 => (by rw [hr] at h0; cases h0), fun k hk => ?_⟩
  rw [hr] at hk
  rcases List.mem_cons.1 hk with rfl | hk
  · obtain ⟨oi, oj, e1, e2, β, H, D, w1, c1, k1⟩ := h1.out
    refine ⟨hi, oi, e1, .inr ⟨β, H, D, w1, c1, fun x => ?_⟩⟩
    obtain ⟨γ, H2, D2, w2, c2, k2⟩ := k1 x
    refine ⟨fun h0 => (by rw [hri] at h0; cases h0), fun m hm => ?_⟩
    rw [hri] at hm
    cases List.mem_singleton.1 hm
    exact ⟨hj, oj, e2, .inr ⟨γ, H2, D2, w2, c2, fun y => ⟨by rw [hS]; exact hfin, hS, k2 y⟩⟩⟩
  · cases List.mem_singleton.1 hk
    obtain ⟨oi, oj, e1, e2, β, H, D, w1, c1, k1⟩ := h2.out
    refine ⟨hj, oi, e1, .inr ⟨β, H, D, w1, c1, fun x => ?_⟩⟩
    obtain ⟨γ, H2, D2, w2, c2, k2⟩ := k1 x
    refine ⟨fun h0 => (by rw [hrj] at h0; cases h0), fun m hm => ?_⟩
    rw [hrj] at hm
    cases List.mem_singleton.1 hm
    exact ⟨hi, oj, e2, .inr ⟨γ, H2, D2, w2, c2, fun y => ⟨by rw [hS']; exact hfin, hS', k2 y⟩⟩⟩
def drawB2 (md : Region.Mode) (ops : Array Oper) (n : Nat) (rds : List Nat) (i j : Nat) : Bool :=
  let s := rds.foldl (fun s i => s.setIfInBounds i true) (Array.replicate ops.size false)
  decide (n < ops.size) && Region.sinkB md ops n && chainB2 md ops n && rdB md ops n rds (Array.replicate ops.size false) && decide (i < n) && decide (j < n) && decide (Region.ready md ops s = [i, j]) && decide (Region.ready md ops (s.setIfInBounds i true) = [j]) && decide (Region.ready md ops (s.setIfInBounds j true) = [i]) &&
    (Region.ready md ops ((s.setIfInBounds i true).setIfInBounds j true)).all (fun k => decide (n ≤ k)) && decide (i ≠ j)
theorem WC.draw2 {id : Nat} {l : List Oper} {Q : Post} (C : List HObj → Prop) (n m : Nat) (rds : List Nat) (i j : Nat) (S : List Bool) (hm : P.follows .mixedOrders = true)
    (hB : drawB2 .any l.toArray n rds i j = true) (hS : ((rds.foldl (fun s i => s.setIfInBounds i true) (Array.replicate l.toArray.size false)).setIfInBounds i true).setIfInBounds j true = S.toArray) (hlen : l.length = rds.length + 2 + m) (hC : C hp)
    (h : WRd P l.toArray C (fun f => W2 P l.toArray C (fun f p => WA P l.toArray Q m S f p) i j f hp ∧ W2 P l.toArray C (fun f p => WA P l.toArray Q m S f p) j i f hp) rds fr) : WC P Q (.region id l.toArray true) fr hp := by
  refine WC.of fun P0 B w0 w a hh hf => ?_
  simp only [drawB2, Bool.and_eq_true, decide_eq_true_eq, List.all_eq_true] at hB
  obtain ⟨⟨⟨⟨⟨⟨⟨⟨⟨⟨hn, hs⟩, hc⟩, hord⟩, hin⟩, hjn⟩, hr⟩, hri⟩, hrj⟩, hfin⟩, hij⟩ := hB
  have inv0 : HeadInv .any l.toArray n (Array.replicate l.toArray.size false) :=
    ⟨by simp, fun j oj _ hl => (by rw [getD_replicate_false] at hl; cases hl), fun t _ ht => getD_in (by simpa using ht) (getD_replicate_false _ _)⟩
  have HW := wpAnyM_rd (f0 := 2) (hp := hp) (L := fun listed' f p => (∀ k ∈ Region.ready .any l.toArray listed', n ≤ k) ∧ listed' = S.toArray ∧ WA P l.toArray Q m S f p) hs hc hn (fun _ _ _ hL => hL.1) rds _ fr inv0 hord h fun fr' hq _ =>
    wpAnyM_w2 hin hjn hr hri hrj hS (by rw [Array.setIfInBounds_comm _ _ (Ne.symm hij)]; exact hS) (by rw [← hS]; exact hfin) hq.1 hq.2
  have hx : Ext w { w with drawn := w.drawn + 1 } := (Ext.refl w).drew
  refine wp_region_any hm ?_
  have := wpAny_of_headM (Q' := lift Q P0 B w0) (g := m) _ _ _ hp _ _ hC (hh.ext hx) (hf.ext hx) (fun listed' fr' hp' a' w' hh' hf' hL => by
    rw [hL.2.1]
    exact hL.2.2.out _ _ _ _ _ hh' hf') HW
  rw [show l.toArray.size = 2 + rds.length + m by simp; omega]
  rw [show (l.toArray.size) = 2 + rds.length + m by simp; omega] at this
  exact this
theorem WRd.readL {l : List Oper} {Q : List Dat → Prop} {i : Nat} {o : Oper} {r : List Nat} {d : Dat} (ho : l[i]? = some o) (h : ∀ hp', C hp' → SYG P l.toArray hp' o fr d) (k : WRd P l.toArray C Q r (setD fr o.dst d)) : WRd P l.toArray C Q (i :: r) fr := WRd.read (by simpa using ho) h k
theorem W2.id {R : List Dat → List HObj → Prop} {i j : Nat} (h : W2 P ops C R i j fr hp) : W2 P ops C R i j fr hp := h
theorem WRd.id {Q : List Dat → Prop} {r : List Nat} (h : WRd P ops C Q r fr) : WRd P ops C Q r fr := h
theorem SW.alloc {dst : Option Tmp} {ty : TypeId} {ps : String} {af : Array Edge} {T : TypeId} {n : Nat} {agg : Bool} {z : Value} (hz : TyZ P T z) (hs : (dX z).Shape n agg) :
    SW P ops hp (fun b : Nat => hCell b T n agg (dX z) :: hp) (fun b => dX (.pointer (some ⟨b, 0, none⟩))) { dst := dst, op := .alloc T, type := ty, pos := ps, after := af, guard := none } fr := ⟨rfl, fun {P0 B w0 w a} hh ho K Q hk => by
  obtain ⟨cs, k1, k0, k2, k3, k4⟩ := hs (fun _ => True) w z rfl
  have hrun : (execOp a.eval { dst := dst, op := .alloc T, type := ty, pos := ps, after := af, guard := none }).run P w = .ok (.value (.pointer (some ⟨w.heap.size, 0, none⟩))) (w.alloc (.cells cs.toArray T)) := by
    cases hq : P.info? T with
    | none => have := hz.out; simp [hq] at this
    | some i =>
      have hz' : i.zero = some z := by have := hz.out; simpa [hq] using this
      unfold execOp
      simp [Instr.alloc, zeroValue, typeInfo, hq, hz', newVar, newRow, k3]
  unfold Oper.wp
  rw [hrun]
  have hx := Ext.of_alloc w (.cells cs.toArray T)
  have hb : ∀ k, (hCell w.heap.size T n agg (dX z)).blk = some k → w.heap.size ≤ k ∧ k < (w.alloc (.cells cs.toArray T)).heap.size := fun k hk => by
    cases hk
    exact ⟨Nat.le_refl _, by simp⟩
  exact hk w.heap.size _ _ (hh.push hx hb ⟨cs, z, alloc_get w _, k1, k0, k2, k4, rfl⟩) (fun d u hd => Hp.pushed hx (fun k hk => (hb k hk).1) hd) rfl⟩
end
end Go.Proofs.YtjbepoofigokjaaGreat
