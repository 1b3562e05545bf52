/- Part 14: walks by contracts, and plain laws. -/
import Derived.Test.YtpiidgcljlalmaaVa13
set_option linter.unusedVariables false
set_option linter.unusedSimpArgs false
set_option linter.unusedSectionVars false
namespace Go.Proofs.Ytpiidgcljlalmaa.S43
section
variable {V : Nat} {s : SS}
theorem two_up {t : List Int} {lev : Nat → Nat} {l : Int} {L q : Nat} {a b : Int} (hu : ∀ x ∈ t, x.natAbs ≠ l.natAbs) (hq : q ≤ t.length)
    (h : (-a ∈ t.take q → b ∈ t ∧ lev b.natAbs ≤ lev a.natAbs) ∧ (-b ∈ t.take q → a ∈ t ∧ lev a.natAbs ≤ lev b.natAbs)) :
    (-a ∈ (t ++ [l]).take q → b ∈ t ++ [l] ∧ up lev l.natAbs L b.natAbs ≤ up lev l.natAbs L a.natAbs) ∧ (-b ∈ (t ++ [l]).take q → a ∈ t ++ [l] ∧ up lev l.natAbs L a.natAbs ≤ up lev l.natAbs L b.natAbs) := by
  have hk : ∀ y : Int, (y ∈ t ∨ -y ∈ t) → up lev l.natAbs L y.natAbs = lev y.natAbs := fun y hy => up_ne (by
    rcases hy with hy | hy
    · exact hu y hy
    · have := hu (-y) hy
      rwa [Int.natAbs_neg] at this)
  rw [List.take_append_of_le_length hq]
  refine ⟨fun q1 => ?_, fun q1 => ?_⟩
  · obtain ⟨g1, g2⟩ := h.1 q1
    exact ⟨List.mem_append_left _ g1, by rw [hk b (.inl g1), hk a (.inr (List.mem_of_mem_take q1))]; exact g2⟩
  · obtain ⟨g1, g2⟩ := h.2 q1
    exact ⟨List.mem_append_left _ g1, by rw [hk a (.inl g1), hk b (.inr (List.mem_of_mem_take q1))]; exact g2⟩
theorem app_last {l : List Cl} {c : Cl} {k : Nat} {x : Cl} (e : (l ++ [c])[k]? = some x) : (k < l.length ∧ l[k]? = some x) ∨ (k = l.length ∧ x = c) := by
  by_cases hk : k < l.length
  · rw [List.getElem?_append_left hk] at e
    exact .inl ⟨hk, e⟩
  · rw [List.getElem?_append_right (by omega)] at e
    have h1 := (List.getElem?_eq_some_iff.1 e).1
    simp only [List.length_singleton] at h1
    have hp0 : k - l.length = 0 := by omega
    rw [hp0] at e
    exact .inr ⟨by omega, by simpa using e.symm⟩
theorem app_at {l : List Cl} {c : Cl} : (l ++ [c])[l.length]? = some c := by
  rw [List.getElem?_append_right (Nat.le_refl _), Nat.sub_self]; rfl
theorem Inv.add (h : Inv V s s.watch fun _ => False) (hb : s.begins = []) {c : Cl} (hr : ∀ x ∈ c, x ≠ 0 ∧ x.natAbs ≤ V) (hd : c.Pairwise fun x y => x.natAbs ≠ y.natAbs) (hh : 2 ≤ c.length → s.head = 0) :
    (Inv V (addS s c) (addS s c).watch fun _ => False) ∧ (addS s c).begins = [] ∧ (addS s c).head = s.head ∧ (addS s c).list = s.list ++ [c] ∧ ∃ t, (addS s c).trail = s.trail ++ t := by
  have hl0 : ∀ x ∈ s.trail, s.lev x.natAbs = 0 := fun x hx => by
    have := h.lev_le hx
    rw [hb] at this
    exact Nat.le_zero.1 this
  match c, hr, hd, hh with
  | [], hr, hd, _ =>
    refine ⟨⟨h.toInv0.app1 (d := true) (by simp) hr (fun _ => rfl) (fun _ => rfl) (fun q => by cases q), fun k a b r e q hq hE => ?_⟩, hb, rfl, rfl, [], (List.append_nil _).symm⟩
    rcases app_last e with ⟨_, e1⟩ | ⟨_, e1⟩
    · exact h.two k a b r e1 q hq hE
    · cases e1
  | [a], hr, hd, _ =>
    by_cases h1 : s.val (-a) = true
    · have e : addS s [a] = { s with list := s.list ++ [[a]], dead := true } := if_pos h1
      rw [e]
      refine ⟨⟨h.toInv0.app1 (d := true) (by simp) hr (fun _ => rfl) (fun _ => rfl) (fun q => by cases q), fun k x b r ek q hq hE => ?_⟩, hb, rfl, rfl, [], (List.append_nil _).symm⟩
      rcases app_last ek with ⟨_, e1⟩ | ⟨_, e1⟩
      · exact h.two k x b r e1 q hq hE
      · cases e1
    · by_cases h2 : s.val a = true
      · have e : addS s [a] = { s with list := s.list ++ [[a]] } := (if_neg h1).trans (if_pos h2)
        rw [e]
        have ham := (h.val a).1 h2
        refine ⟨⟨h.toInv0.app1 (d := s.dead) (by simp) hr id (fun q => by cases q) (fun _ x q => by cases q; exact ⟨ham, hl0 _ ham⟩), fun k x b r ek q hq hE => ?_⟩, hb, rfl, rfl, [], (List.append_nil _).symm⟩
        rcases app_last ek with ⟨_, e1⟩ | ⟨_, e1⟩
        · exact h.two k x b r e1 q hq hE
        · cases e1
      · have e : addS s [a] = assignS { s with list := s.list ++ [[a]] } a (some s.list.length) := (if_neg h1).trans (if_neg h2)
        rw [e]
        have hu : ∀ x ∈ s.trail, x.natAbs ≠ a.natAbs := fun z hz q => by
          rcases Int.natAbs_eq_natAbs_iff.1 q with q | q
          · exact h2 ((h.val a).2 (q ▸ hz))
          · exact h1 ((h.val (-a)).2 (q ▸ hz))
        have h3 : Inv0 V { s with list := s.list ++ [[a]], dead := true } s.watch := h.toInv0.app1 (d := true) (by simp) hr (fun _ => rfl) (fun _ => rfl) (fun q => by cases q)
        have h4 := h3.assign (l := a) (r := some s.list.length) hu (hr a (by simp)) (fun k q => by cases q; exact ⟨[a], app_at, by simp, fun y hy hne => absurd (List.mem_singleton.1 hy) hne⟩) (fun q => by cases q)
        refine ⟨⟨Inv0.redead (s := assignS { s with list := s.list ++ [[a]] } a (some s.list.length)) h4 (fun hdd x hx => ?_) (fun q => ?_), fun k x b r ek q hq hE => ?_⟩, hb, rfl, rfl, [a], rfl⟩
        · rcases List.mem_append.1 hx with hx | hx
          · obtain ⟨g1, g2⟩ := h.unit hdd x hx
            refine ⟨List.mem_append_left _ g1, ?_⟩
            show up s.lev a.natAbs s.begins.length x.natAbs = 0
            rw [up_ne (hu x g1)]; exact g2
          · have : x = a := by simpa using hx
            subst this
            refine ⟨List.mem_append_right _ (by simp), ?_⟩
            show up s.lev x.natAbs s.begins.length x.natAbs = 0
            rw [up_eq, hb]; rfl
        · rcases List.mem_append.1 q with q | q
          · exact h.emp q
          · simp at q
        · rcases app_last ek with ⟨_, e1⟩ | ⟨_, e1⟩
          · exact two_up hu (Nat.le_trans hq h.hl) (h.two k x b r e1 q hq hE)
          · cases e1
  | a :: b :: r, hr, hd, hh =>
    refine ⟨⟨h.toInv0.app2 hr hd, fun k x y rr ek q hq hE => ?_⟩, hb, rfl, rfl, [], (List.append_nil _).symm⟩
    have h0 := hh (by simp)
    have hq0 : q = 0 := by
      have : q ≤ s.head := hq
      omega
    subst hq0
    exact ⟨(fun q => by cases q), fun q => by cases q⟩
def learnedS (s : SS) (c : Cl) : SS := if 1 < c.length then assignS (addS s c) (c.getD 0 0) (some s.list.length) else addS s c
theorem Inv.learned (h : Inv V s s.watch fun _ => False) (hh : s.head = s.trail.length) {x : Int} {rest : List Int} (hx : ∀ y ∈ s.trail, y.natAbs ≠ x.natAbs) (hxr : x ≠ 0 ∧ x.natAbs ≤ V) (hd : (-x :: rest).Pairwise fun x y => x.natAbs ≠ y.natAbs)
    (hr : ∀ y ∈ rest, -y ∈ s.trail ∧ s.lev y.natAbs ≤ s.begins.length) (h0 : rest = [] → s.begins = []) (h1 : ∀ b r, rest = b :: r → s.lev b.natAbs = s.begins.length) :
    (Inv V (learnedS s (-x :: rest)) (learnedS s (-x :: rest)).watch fun _ => False) ∧ (learnedS s (-x :: rest)).begins = s.begins ∧ (learnedS s (-x :: rest)).head = s.head ∧ (learnedS s (-x :: rest)).list = s.list ++ [-x :: rest] ∧ (learnedS s (-x :: rest)).trail = s.trail ++ [-x] ∧ (learnedS s (-x :: rest)).dead = s.dead ∧ (learnedS s (-x :: rest)).rea = up s.rea (-x).natAbs (some s.list.length) := by
  have hrng : ∀ y ∈ -x :: rest, y ≠ 0 ∧ y.natAbs ≤ V := fun y hy => by
    rcases List.mem_cons.1 hy with rfl | hy
    · exact ⟨by omega, by rw [Int.natAbs_neg]; exact hxr.2⟩
    · have := h.trng _ (hr y hy).1
      rw [Int.natAbs_neg] at this
      exact ⟨by omega, this.2⟩
  have hu : ∀ y ∈ s.trail, y.natAbs ≠ (-x).natAbs := fun y hy => by rw [Int.natAbs_neg]; exact hx y hy
  match rest, hd, hr, h0, h1, hrng with
  | [], hd, hr, h0, h1, hrng =>
    have e : learnedS s [-x] = addS s [-x] := if_neg (by simp)
    have v1 : s.val (- -x) = false := by
      cases hq : s.val (- -x)
      · rfl
      · exact absurd (by simp) (hx _ ((h.val _).1 hq))
    have v2 : s.val (-x) = false := by
      cases hq : s.val (-x)
      · rfl
      · exact absurd (by simp) (hx _ ((h.val _).1 hq))
    have e2 : addS s [-x] = assignS { s with list := s.list ++ [[-x]] } (-x) (some s.list.length) := by
      unfold addS
      simp only
      rw [v1, v2]
      rfl
    obtain ⟨a1, a2, a3, a4, _⟩ := h.add (h0 rfl) hrng hd (by simp)
    rw [e]
    refine ⟨a1, by rw [a2, h0 rfl], a3, a4, by rw [e2]; rfl, by rw [e2]; rfl, by rw [e2]; rfl⟩
  | b :: r, hd, hr, _, h1, hrng =>
    have e : learnedS s (-x :: b :: r) = assignS (addS s (-x :: b :: r)) (-x) (some s.list.length) := if_pos (by simp)
    have hA := (h.toInv0.app2 hrng hd).assign (l := -x) (r := some s.list.length) hu (hrng _ (by simp)) (fun k q => by
      cases q
      exact ⟨-x :: b :: r, app_at, by simp, fun y hy hne => by
        rcases List.mem_cons.1 hy with rfl | hy
        · exact absurd rfl hne
        · exact (hr y hy).1⟩) (fun q => by cases q)
    rw [e]
    refine ⟨⟨hA, fun k y z rr ek q hq hE => ?_⟩, rfl, rfl, rfl, rfl, rfl, rfl⟩
    have hq' : q ≤ s.head := hq
    rcases app_last ek with ⟨_, e1⟩ | ⟨_, e1⟩
    · exact two_up (t := s.trail) hu (show q ≤ s.trail.length by omega) (h.two k y z rr e1 q hq' fun q => q.elim)
    · cases e1
      have htk : (s.trail ++ [-x]).take q = s.trail.take q := List.take_append_of_le_length (by omega)
      have hbx : b.natAbs ≠ (-x).natAbs := fun q => (List.pairwise_cons.1 hd).1 b (by simp) q.symm
      refine ⟨fun q1 => ?_, fun _ => ⟨List.mem_append_right _ (by simp), ?_⟩⟩
      · have q2 : - -x ∈ s.trail.take q := htk ▸ q1
        exact absurd (by simp) (hx _ (List.mem_of_mem_take q2))
      · show up s.lev (-x).natAbs s.begins.length (-x).natAbs ≤ up s.lev (-x).natAbs s.begins.length b.natAbs
        rw [up_eq, up_ne hbx, h1 b r rfl]
        exact Nat.le_refl _
def levelS (s : SS) : SS := { s with begins := s.begins ++ [s.trail.length] }
theorem Inv.level (h : Inv V s s.watch fun _ => False) (hh : s.head = s.trail.length) : Inv V (levelS s) (levelS s).watch fun _ => False := by
  refine ⟨⟨h.rng, h.dis, h.trng, h.tdis, h.val, ?_, fun b hb => ?_, h.hl, fun p x e => ?_, h.un, h.rea, fun p x e q => List.mem_append_left _ (h.dec p x e q), h.wok, h.wmem, h.wnd, h.unit, h.emp⟩, h.two⟩
  · refine List.pairwise_append.2 ⟨h.bs, by simp, fun a ha b hb => ?_⟩
    rw [List.mem_singleton.1 hb, ← hh]
    exact h.bh a ha
  · show b ≤ s.head
    rcases List.mem_append.1 hb with hb | hb
    · exact h.bh b hb
    · rw [List.mem_singleton.1 hb, hh]; exact Nat.le_refl _
  · show s.lev x.natAbs = lvp (s.begins ++ [s.trail.length]) p
    rw [lvp_append, h.lev p x e, lvp_none (bs := [s.trail.length]) fun b hb => by
      rw [List.mem_singleton.1 hb]
      exact (List.getElem?_eq_some_iff.1 e).1]
    rfl
def decideS (s : SS) (l : Int) : SS := assignS (levelS s) l none
theorem Inv.decide (h : Inv V s s.watch fun _ => False) (hh : s.head = s.trail.length) {l : Int} (hl : l ≠ 0 ∧ l.natAbs ≤ V) (hu : ∀ x ∈ s.trail, x.natAbs ≠ l.natAbs) : Inv V (decideS s l) (decideS s l).watch fun _ => False :=
  (h.level hh).assign hu hl (fun k q => by cases q) fun _ => List.mem_append_right _ (by exact List.mem_singleton.2 rfl)
def startS : SS := { list := [], watch := fun _ => [], val := fun _ => false, lev := fun _ => 0, rea := fun _ => none, trail := [], begins := [], head := 0, dead := false }
theorem Inv.init (V : Nat) : Inv V startS startS.watch fun _ => False := by
  refine ⟨⟨?_, ?_, ?_, ?_, ?_, ?_, ?_, ?_, ?_, ?_, ?_, ?_, ?_, ?_, ?_, ?_, ?_⟩, ?_⟩ <;> simp [startS]
def beginS (l : List Cl) : SS := l.foldl addS startS
theorem begin_ok {V : Nat} {l : List Cl} (hr : ∀ c ∈ l, (∀ x ∈ c, x ≠ 0 ∧ x.natAbs ≤ V) ∧ c.Pairwise fun x y => x.natAbs ≠ y.natAbs) : (Inv V (beginS l) (beginS l).watch fun _ => False) ∧ (beginS l).begins = [] ∧ (beginS l).head = 0 ∧ (beginS l).list = l := by
  have go : ∀ (l : List Cl) (s : SS), (∀ c ∈ l, (∀ x ∈ c, x ≠ 0 ∧ x.natAbs ≤ V) ∧ c.Pairwise fun x y => x.natAbs ≠ y.natAbs) → (Inv V s s.watch fun _ => False) → s.begins = [] → s.head = 0 →
      (Inv V (l.foldl addS s) (l.foldl addS s).watch fun _ => False) ∧ (l.foldl addS s).begins = [] ∧ (l.foldl addS s).head = 0 ∧ (l.foldl addS s).list = s.list ++ l := by
    intro l
    induction l with
    | nil => intro s _ h hb hh; exact ⟨h, hb, hh, (List.append_nil _).symm⟩
    | cons c l ih =>
      intro s hr h hb hh
      obtain ⟨a1, a2, a3, a4, _⟩ := h.add hb (hr c (by simp)).1 (hr c (by simp)).2 fun _ => hh
      obtain ⟨b1, b2, b3, b4⟩ := ih (addS s c) (fun d hd => hr d (by simp [hd])) a1 a2 (a3.trans hh)
      rw [List.foldl_cons]
      exact ⟨b1, b2, b3, by rw [b4, a4, List.append_assoc]; rfl⟩
  obtain ⟨a1, a2, a3, a4⟩ := go l startS hr (Inv.init V) rfl rfl
  exact ⟨a1, a2, a3, a4⟩
end
end Go.Proofs.Ytpiidgcljlalmaa.S43
namespace Go.Proofs.Ytpiidgcljlalmaa
open Go.RowKit
open S43 (SS up)
abbrev nilV : Value := .slice none 0 0
def lits (V : Nat) : List Int := ((List.range V).map fun (i : Nat) => ((i + 1 : Nat) : Int)) ++ (List.range V).map fun (i : Nat) => -((i + 1 : Nat) : Int)
theorem lits_mem {V : Nat} {x : Int} : x ∈ lits V ↔ x ≠ 0 ∧ x.natAbs ≤ V := by
  unfold lits
  rw [List.mem_append, List.mem_map, List.mem_map]
  constructor
  · rintro (⟨i, hi, rfl⟩ | ⟨i, hi, rfl⟩) <;> (have := List.mem_range.1 hi; omega)
  · rintro ⟨h0, h1⟩
    by_cases h : 0 < x
    · exact .inl ⟨x.natAbs - 1, List.mem_range.2 (by omega), by omega⟩
    · exact .inr ⟨x.natAbs - 1, List.mem_range.2 (by omega), by omega⟩
theorem lits_nodup (V : Nat) : (lits V).Nodup := by
  unfold lits
  rw [List.nodup_append]
  refine ⟨?_, ?_, ?_⟩
  · exact (List.nodup_range).map (f := fun i => ((i + 1 : Nat) : Int)) fun a b h => by simp at h; omega
  · exact (List.nodup_range).map (f := fun i => -((i + 1 : Nat) : Int)) fun a b h => by simp at h; omega
  · intro a ha b hb e
    obtain ⟨i, _, rfl⟩ := List.mem_map.1 ha
    obtain ⟨j, _, rfl⟩ := List.mem_map.1 hb
    omega
structure Lay where
  b : Nat
  bw : Nat
  bv : Nat
  bl : Nat
  br : Nat
  cf : Int
  vL : Value
  vT : Value
  vB : Value
  vN : Value
  u : Nat → Value
  wv : Int → Value
def pVal (val : Int → Bool) : (Int → Option Bool) → Prop := fun g => ∀ x, (g x).getD false = val x
def pLev (lev : Nat → Nat) : (Int → Option Int) → Prop := fun g => ∀ v : Nat, (g (v : Int)).getD 0 = (lev v : Int)
def pRea (rea : Nat → Option Nat) : (Int → Option Int) → Prop := fun g => ∀ v : Nat, g (v : Int) = (rea v).map fun (r : Nat) => (r : Int)
def pWat (wv : Int → Value) : (Int → Option Value) → Prop := fun g => ∀ x, (g x).getD nilV = wv x
def ints (l : List Nat) : List Int := l.map fun (n : Nat) => (n : Int)
theorem ints_len (l : List Nat) : (ints l).length = l.length := List.length_map _
theorem ints_app (l m : List Nat) : ints (l ++ m) = ints l ++ ints m := List.map_append
theorem ints_take (l : List Nat) (k : Nat) : (ints l).take k = ints (l.take k) := List.map_take.symm
theorem ints_get {l : List Nat} {k : Nat} (h : k < (ints l).length) : (ints l)[k] = (l[k]'(by rw [← ints_len]; exact h) : Int) := List.getElem_map _
abbrev idV : Value → Value := fun v => v
abbrev tI : TypeId := 3
abbrev ptrS (X : Lay) : Value := .pointer (some ⟨X.b, 0, none⟩)
abbrev oS (X : Lay) (V : Nat) (s : SS) : HObj := hStr X.b 79 [dI (V : Int), dX X.vL, dX (.map (some X.bw)), dX (.map (some X.bv)), dX (.map (some X.bl)), dX (.map (some X.br)), dX X.vT, dX X.vB, dI (s.head : Int), dX X.vN, dI X.cf, dB s.dead]
abbrev oV (X : Lay) (s : SS) : HObj := hG X.bv kvI is64 vvB (pVal s.val)
abbrev oL (X : Lay) (s : SS) : HObj := hG X.bl kvI is64 kvI (pLev s.lev)
abbrev oR (X : Lay) (s : SS) : HObj := hG X.br kvI is64 kvI (pRea s.rea)
abbrev oT (X : Lay) (s : SS) : HObj := hRow X.vT tI RI s.trail
abbrev oB (X : Lay) (s : SS) : HObj := hRow X.vB tI RI (ints s.begins)
abbrev core (X : Lay) (V : Nat) (s : SS) : List HObj := [oS X V s, oV X s, oL X s, oR X s, oT X s, oB X s]
abbrev oW (X : Lay) : HObj := hG X.bw kvI is64 idV (pWat X.wv)
abbrev oC (X : Lay) (s : SS) : HObj := hRow X.vL 25 RRow ((List.range s.list.length).map X.u)
abbrev rowsC (X : Lay) (s : SS) : List HObj := gO (List.range s.list.length) X.u tI fun k => s.list.getD k []
abbrev rowsW (X : Lay) (V : Nat) (s : SS) : List HObj := gO (lits V) X.wv tI fun l => ints (s.watch l)
def full (X : Lay) (V : Nat) (s : SS) : List HObj := core X V s ++ oW X :: oC X s :: (rowsC X s ++ rowsW X V s)
abbrev oN (X : Lay) (lr : List S43.Cl) : HObj := hRow X.vN 25 Ints lr
theorem i64 {x : Int} (h : x.natAbs ≤ 1000000) : is64 x := by unfold is64; omega
theorem pVal_up {val : Int → Bool} {x : Int} {v : Bool} : ∀ f, pVal val f → pVal (up val x v) (upF f x (some v)) := fun f h y => by
  unfold upF up
  by_cases e : y = x
  · rw [if_pos e, if_pos e]; rfl
  · rw [if_neg e, if_neg e]; exact h y
theorem pLev_up {lev : Nat → Nat} {v : Nat} {k : Nat} {j : Int} (hj : j = (k : Int)) : ∀ f, pLev lev f → pLev (up lev v k) (upF f (v : Int) (some j)) := fun f h y => by
  subst hj
  unfold upF up
  by_cases e : y = v
  · rw [if_pos (by rw [e]), if_pos e]; rfl
  · rw [if_neg (by omega), if_neg e]; exact h y
theorem pRea_up {rea : Nat → Option Nat} {v k : Nat} : ∀ f, pRea rea f → pRea (up rea v (some k)) (upF f (v : Int) (some (k : Int))) := fun f h y => by
  unfold upF up
  by_cases e : y = v
  · rw [if_pos (by rw [e]), if_pos e]; rfl
  · rw [if_neg (by omega), if_neg e]; exact h y
theorem pWat_up {wv : Int → Value} {x : Int} {v : Value} : ∀ f, pWat wv f → pWat (up wv x v) (upF f x (some v)) := fun f h y => by
  unfold upF up
  by_cases e : y = x
  · rw [if_pos e, if_pos e]; rfl
  · rw [if_neg e, if_neg e]; exact h y
section
variable {ops : Array Oper} {hp : List HObj} {fr : List Dat} {dst : Option Tmp} {ty : TypeId} {ps : String} {af : Array Edge} {g : Option (Nat × Bool)} {b : Nat} {x y : Operand}
theorem SY.valG {val : Int → Bool} {l : Int} (hx : OpD fr x (dX (.map (some b)))) (hm : hG b kvI is64 vvB (pVal val) ∈ hp) (hy : OpD fr y (dI l)) (ho : is64 l) :
    SY Try.prog ops hp { dst := dst, op := .lookup 76 x y false, type := ty, pos := ps, after := af, guard := g } fr (dB (val l)) :=
  SY.lookG mapT_b keyT_I hx hm hy isI ho fun I w f hf => by
    have := hf l
    cases h : f l <;> rw [h] at this <;> simp at this <;> rw [← this] <;> rfl
theorem SY.levG {lev : Nat → Nat} {l : Nat} (hx : OpD fr x (dX (.map (some b)))) (hm : hG b kvI is64 kvI (pLev lev) ∈ hp) (hy : OpD fr y (dI (l : Int))) (ho : is64 (l : Int)) :
    SY Try.prog ops hp { dst := dst, op := .lookup 77 x y false, type := ty, pos := ps, after := af, guard := g } fr (dI (lev l : Int)) :=
  SY.lookG mapT_i keyT_I hx hm hy isI ho fun I w f hf => by
    have := hf l
    cases h : f (l : Int) <;> rw [h] at this <;> simp at this <;> show _ = _
    · rw [← this]; rfl
    · rw [← this]; rfl
theorem SY.reaG {rea : Nat → Option Nat} {l : Nat} (hx : OpD fr x (dX (.map (some b)))) (hm : hG b kvI is64 kvI (pRea rea) ∈ hp) (hy : OpD fr y (dI (l : Int))) (ho : is64 (l : Int)) :
    SY Try.prog ops hp { dst := dst, op := .lookup 77 x y false, type := ty, pos := ps, after := af, guard := g } fr (dI (((rea l).getD 0 : Nat) : Int)) :=
  SY.lookG mapT_i keyT_I hx hm hy isI ho fun I w f hf => by
    have := hf l
    rw [this]
    cases rea l <;> rfl
theorem SY.reaG2 {rea : Nat → Option Nat} {l : Nat} (hx : OpD fr x (dX (.map (some b)))) (hm : hG b kvI is64 kvI (pRea rea) ∈ hp) (hy : OpD fr y (dI (l : Int))) (ho : is64 (l : Int)) :
    SY Try.prog ops hp { dst := dst, op := .lookup 77 x y true, type := ty, pos := ps, after := af, guard := g } fr (dT [dI (((rea l).getD 0 : Nat) : Int), dB (rea l).isSome]) :=
  (SY.lookG2 mapT_i keyT_I hx hm hy isI ho fun f hf => by
    have := hf l
    rw [this]
    cases rea l
    · exact ⟨rfl, rfl⟩
    · exact ⟨rfl, rfl⟩ : SY Try.prog ops hp _ fr (dT [dX (.int .i64 (((rea l).getD 0 : Nat) : Int)), dB (rea l).isSome]))
theorem SY.watG {wv : Int → Value} {l : Int} (hx : OpD fr x (dX (.map (some b)))) (hm : hG b kvI is64 idV (pWat wv) ∈ hp) (hy : OpD fr y (dI l)) (ho : is64 l) :
    SY Try.prog ops hp { dst := dst, op := .lookup 75 x y false, type := ty, pos := ps, after := af, guard := g } fr (dX (wv l)) :=
  SY.lookG (R := RVal) (_gR := inferInstance) mapT_w keyT_I hx hm hy isI ho fun I w f hf => by
    have := hf l
    show _ = _
    rw [← this]
    cases f l <;> rfl
theorem SY.nilCk {ad : Addr} (hx : OpD fr x (dX (.pointer (some ad)))) : SY Try.prog ops hp { dst := dst, op := .nilCheck x, type := ty, pos := ps, after := af, guard := g } fr (dX (.pointer (some ad))) := SY.val fun {I w a} ho => by
  have h1 : a.eval x = .pointer (some ad) := hx.get (by simp [Op.operands]) ho
  refine ⟨.pointer (some ad), ?_, rfl⟩
  unfold execOp
  simp only [h1, Sem.run_pure]
end
set_option linter.unusedSimpArgs false
set_option linter.unusedVariables false
set_option maxHeartbeats 2000000
set_option maxRecDepth 100000
theorem variable_p (l : Int) (hl : l.natAbs ≤ 1000000) : Fn Try.prog 98 [dI l] (dI (l.natAbs : Int)) := by
  (refine Fn.intro1 Try.func98 rfl rfl ?_; simp only [Try.ntmps98, List.length_cons, List.length_nil, Nat.reduceAdd, Nat.reduceSub, List.replicate_succ, List.replicate_zero, List.cons_append, List.nil_append])
  have h1 : (if l < -l then -l else l) = (l.natAbs : Int) := by split <;> omega
  ((repeat' (first | (apply WL.opN; exact yF; dsimp only [setD, z0, z1]) | refine WL.nil ?_ | refine WC.seqK fun Kx hK => ?_ | (refine hK _ _ ?_; clear hK) | refine WC.region ?_ | (apply WL.opN; (focus ((first | (exact SY.neg (OpD.t rfl) (by omega)) | (exact h1 ▸ SY.maxI (OpD.t rfl) (OpD.t rfl)) | fail); all_goals infer_instance)); dsimp only [setD, z0, z1]) | refine WC.ret ?_)); all_goals (first | ((repeat clear hK); (repeat clear Kx))))
  (refine ⟨trivial, _, rfl, ?_⟩; exact fD)
end Go.Proofs.Ytpiidgcljlalmaa
namespace Go.Proofs.Ytpiidgcljlalmaa
open Go.RowKit
open S43 (SS up assignS decideS levelS backS)
set_option linter.unusedSimpArgs false
set_option linter.unusedVariables false
set_option maxHeartbeats 2000000
set_option maxRecDepth 100000
def rI : Option Nat → Int
  | some k => (k : Int)
  | none => -1
set_option maxHeartbeats 4000000 in
theorem assignR_c (X : Lay) (V : Nat) (s : SS) (l : Int) (k : Nat) (hk : k ≤ 4611686018427387904) (hl : l.natAbs ≤ 1000000) (ht : s.trail.length ≤ 1000000) :
    CallC Try.prog 78 ([dX (ptrS X), dI l, dI (rI (some k))] ++ ([] : List Value).map dX) (core X V s) (fun _ hp2 => ∃ v, hp2 = core { X with vT := v } V (assignS s l (some k))) := by
  (refine CallC.intro0 Try.func78 rfl rfl (fun hp => ?_); simp only [Try.ntmps78, List.length_cons, List.length_nil, List.length_append, List.length_map, Nat.reduceAdd, Nat.reduceSub, List.replicate_succ, List.replicate_zero, List.cons_append, List.nil_append, List.map_cons, List.map_nil, List.append_assoc])
  have hv := variable_p l hl
  have hl2 : is64 ((l.natAbs : Nat) : Int) := by unfold is64; omega
  have e1 : (ints s.begins).length = s.begins.length := ints_len _
  have h8 : (s.trail.length + 1) * 8 ≤ 140737488355328 := by omega
  simp only [rI]
  ((repeat' (first |  (apply WC.drawTail (id := 1) 11; kernel_rfl; kernel_rfl; simp only [List.take_succ_cons, List.take_zero, List.drop_succ_cons, List.drop_zero]) |  (apply WC.drawTail (id := 3) 7; kernel_rfl; kernel_rfl; simp only [List.take_succ_cons, List.take_zero, List.drop_succ_cons, List.drop_zero]) | ((first | apply WL.opN | apply WD.opN); exact yF; dsimp only [setD, z0, z1]) | refine WL.nil ?_ | refine WD.nil ?_ | refine WC.seqK fun Kx hK => ?_ | (refine hK _ _ ?_; clear hK) | refine WC.region ?_ |  (refine WL.ofSW (SW.at 1 rfl fun q => SW.updG (pVal (up s.val l true)) mapT_b keyT_I (OpD.t rfl) (OpD.t rfl) isI OpD.b isB (i64 hl) (fun f hf => pVal_up f hf)) fun _ => ?_; dsimp only [setD, z0, z1]) |  (refine WL.ofSW (SW.at 2 rfl fun q => SW.updG (pLev (up s.lev l.natAbs s.begins.length)) mapT_i keyT_I (OpD.t rfl) (OpD.t rfl) isI (OpD.t rfl) isI hl2 (pLev_up (by rw [e1]))) fun _ => ?_; dsimp only [setD, z0, z1]) |  (refine WL.ofSW (SW.at 3 rfl fun q => SW.updG (pRea (up s.rea l.natAbs (some k))) mapT_i keyT_I (OpD.t rfl) (OpD.t rfl) isI (OpD.t rfl) isI hl2 pRea_up) fun _ => ?_; dsimp only [setD, z0, z1]) |  (refine WL.ofSW (SW.at 4 rfl fun q => SW.app1 elI (OpD.t rfl) (OpD.t rfl) (by decide) h8) fun v => ?_; refine WL.rowIs (mAt 4 rfl) fun hvv => ?_; dsimp only [setD, z0, z1]) |  (refine WL.ofSW (SW.at 0 rfl fun q => SW.storeS tySi (OpD.t rfl) (OpD.t rfl) (shape_X hvv) (by simp)) fun _ => ?_; dsimp only [setD, z0, z1]) | ((first | apply WL.opN | apply WD.opN); (focus ((first | (apply SY.call (hv) Try.call98; (exact aD)) | (exact SY.nilCk (OpD.t rfl)) | (refine SY.fldS strS (OpD.t rfl) (by decide)) | (apply SY.loadS; (first | exact tyI | exact tySi | exact tyF | exact tyFL); exact OpD.t rfl; exact mAt 0 rfl; rfl) | (apply SY.lenR; exact OpD.t rfl; exact mAt 5 rfl; exact elI.unt) | ((first | apply SY.move | apply SY.geq) <;> (exact oD)) | (apply SY.build1'; (exact eD); ((try simp only [List.map_cons, List.map_nil]); (repeat (first | exact ElsD.nl | (apply ElsD.cn; (first | exact OpD.t rfl | exact OpD.i | exact OpD.b | exact OpD.tle rfl (by first | exact Dat.le_nil | exact Dat.le_nilK (by decide)) | exact ⟨Dat.le_nil⟩ | exact ⟨Dat.le_nilK (by decide)⟩))))); rfl; rfl; (intro _; first | exact shape_K | exact shape_I | exact shape_A | exact shape_B); (exact (by simp))) | fail); all_goals infer_instance)); dsimp only [setD, z0, z1]) | (apply WC.condD; (exact oD); all_goals (intro h; try exact xD)))); all_goals (first | ((repeat clear hK); (repeat clear Kx))))
  all_goals try (exfalso; omega)
  exact ⟨trivial, core { X with vT := v } V (assignS s l (some k)), rfl, v, rfl⟩
set_option maxHeartbeats 4000000 in
theorem assignD_c (X : Lay) (V : Nat) (s : SS) (l : Int)  (hl : l.natAbs ≤ 1000000) (ht : s.trail.length ≤ 1000000) :
    CallC Try.prog 78 ([dX (ptrS X), dI l, dI (rI none)] ++ ([] : List Value).map dX) (core X V s) (fun _ hp2 => ∃ v, hp2 = core { X with vT := v } V (assignS s l none)) := by
  (refine CallC.intro0 Try.func78 rfl rfl (fun hp => ?_); simp only [Try.ntmps78, List.length_cons, List.length_nil, List.length_append, List.length_map, Nat.reduceAdd, Nat.reduceSub, List.replicate_succ, List.replicate_zero, List.cons_append, List.nil_append, List.map_cons, List.map_nil, List.append_assoc])
  have hv := variable_p l hl
  have hl2 : is64 ((l.natAbs : Nat) : Int) := by unfold is64; omega
  have e1 : (ints s.begins).length = s.begins.length := ints_len _
  have h8 : (s.trail.length + 1) * 8 ≤ 140737488355328 := by omega
  simp only [rI]
  ((repeat' (first |  (apply WC.drawTail (id := 1) 11; kernel_rfl; kernel_rfl; simp only [List.take_succ_cons, List.take_zero, List.drop_succ_cons, List.drop_zero]) |  (apply WC.drawTail (id := 3) 7; kernel_rfl; kernel_rfl; simp only [List.take_succ_cons, List.take_zero, List.drop_succ_cons, List.drop_zero]) | ((first | apply WL.opN | apply WD.opN); exact yF; dsimp only [setD, z0, z1]) | refine WL.nil ?_ | refine WD.nil ?_ | refine WC.seqK fun Kx hK => ?_ | (refine hK _ _ ?_; clear hK) | refine WC.region ?_ |  (refine WL.ofSW (SW.at 1 rfl fun q => SW.updG (pVal (up s.val l true)) mapT_b keyT_I (OpD.t rfl) (OpD.t rfl) isI OpD.b isB (i64 hl) (fun f hf => pVal_up f hf)) fun _ => ?_; dsimp only [setD, z0, z1]) |  (refine WL.ofSW (SW.at 2 rfl fun q => SW.updG (pLev (up s.lev l.natAbs s.begins.length)) mapT_i keyT_I (OpD.t rfl) (OpD.t rfl) isI (OpD.t rfl) isI hl2 (pLev_up (by rw [e1]))) fun _ => ?_; dsimp only [setD, z0, z1]) |  (refine WL.ofSW (SW.at 4 rfl fun q => SW.app1 elI (OpD.t rfl) (OpD.t rfl) (by decide) h8) fun v => ?_; refine WL.rowIs (mAt 4 rfl) fun hvv => ?_; dsimp only [setD, z0, z1]) |  (refine WL.ofSW (SW.at 0 rfl fun q => SW.storeS tySi (OpD.t rfl) (OpD.t rfl) (shape_X hvv) (by simp)) fun _ => ?_; dsimp only [setD, z0, z1]) | ((first | apply WL.opN | apply WD.opN); (focus ((first | (apply SY.call (hv) Try.call98; (exact aD)) | (exact SY.nilCk (OpD.t rfl)) | (refine SY.fldS strS (OpD.t rfl) (by decide)) | (apply SY.loadS; (first | exact tyI | exact tySi | exact tyF | exact tyFL); exact OpD.t rfl; exact mAt 0 rfl; rfl) | (apply SY.lenR; exact OpD.t rfl; exact mAt 5 rfl; exact elI.unt) | ((first | apply SY.move | apply SY.geq) <;> (exact oD)) | (apply SY.build1'; (exact eD); ((try simp only [List.map_cons, List.map_nil]); (repeat (first | exact ElsD.nl | (apply ElsD.cn; (first | exact OpD.t rfl | exact OpD.i | exact OpD.b | exact OpD.tle rfl (by first | exact Dat.le_nil | exact Dat.le_nilK (by decide)) | exact ⟨Dat.le_nil⟩ | exact ⟨Dat.le_nilK (by decide)⟩))))); rfl; rfl; (intro _; first | exact shape_K | exact shape_I | exact shape_A | exact shape_B); (exact (by simp))) | fail); all_goals infer_instance)); dsimp only [setD, z0, z1]) | (apply WC.condD; (exact oD); all_goals (intro h; try exact xD)) | refine WC.skip ?_)); all_goals (first | ((repeat clear hK); (repeat clear Kx))))
  all_goals try (exfalso; omega)
  exact ⟨trivial, core { X with vT := v } V (assignS s l none), rfl, v, rfl⟩
set_option maxHeartbeats 4000000 in
theorem decide_c (X : Lay) (V : Nat) (s : SS) (l : Int) (hl : l.natAbs ≤ 1000000) (ht : s.trail.length ≤ 1000000) (hb : s.begins.length ≤ 1000000) :
    CallC Try.prog 81 ([dX (ptrS X), dI l] ++ ([] : List Value).map dX) (core X V s) (fun _ hp2 => ∃ v v', hp2 = core { X with vT := v, vB := v' } V (decideS s l)) := by
  (refine CallC.intro0 Try.func81 rfl rfl (fun hp => ?_); simp only [Try.ntmps81, List.length_cons, List.length_nil, List.length_append, List.length_map, Nat.reduceAdd, Nat.reduceSub, List.replicate_succ, List.replicate_zero, List.cons_append, List.nil_append, List.map_cons, List.map_nil, List.append_assoc])
  have h8 : ((ints s.begins).length + 1) * 8 ≤ 140737488355328 := by rw [ints_len]; omega
  have hA := fun v => assignD_c { X with vB := v } V (levelS s) l hl (by exact ht)
  have e2 : ints s.begins ++ [(s.trail.length : Int)] = ints (s.begins ++ [s.trail.length]) := by simp [ints]
  ((repeat' (first |  (refine WC.drawM (fun hp' => oS X V s ∈ hp' ∧ oT X s ∈ hp') 12 3 [(0, false), (1, false), (2, false), (3, false), (4, false), (5, false), (6, false), (7, false), (8, false), (9, false), (10, false), (11, true)] [true, true, true, true, true, true, true, true, true, true, true, true, false, false, false] (by kernel_rfl) (by kernel_rfl) (by kernel_rfl) rfl (⟨mAt 0 rfl, mAt 4 rfl⟩) ?_) |  (first | refine WA.one (S := [true, true, true, true, true, true, true, true, true, true, true, true, false, false, false]) (i := 12) (by kernel_rfl) rfl ?_ | refine WA.one (S := [true, true, true, true, true, true, true, true, true, true, true, true, true, false, false]) (i := 13) (by kernel_rfl) rfl ?_ | refine WA.one (S := [true, true, true, true, true, true, true, true, true, true, true, true, true, true, false]) (i := 14) (by kernel_rfl) rfl ?_ | refine WA.nil (S := [true, true, true, true, true, true, true, true, true, true, true, true, true, true, true]) (by kernel_rfl) ?_) |  (refine WM.writeL rfl (SW.at 5 rfl fun q => SW.app1 elI (OpD.t rfl) (OpD.t rfl) (by decide) h8) (fun _ => ⟨mAt 0 rfl, mAt 4 rfl⟩) fun v => ?_; dsimp only [setD, z0, z1]) | (refine WM.nil ?_) | (apply WM.readL rfl; (focus (intro c hcc; apply SYG.yes; (exact want_none rfl); ((first | (exact SY.nilCk (OpD.t rfl)) | (refine SY.fldS strS (OpD.t rfl) (by decide)) | (apply SY.loadS; (first | exact tyI | exact tySi | exact tyF | exact tyFL); exact OpD.t rfl; exact hcc.1; rfl) | (apply SY.lenR; exact OpD.t rfl; exact hcc.2; exact elI.unt) | ((first | apply SY.move) <;> (exact oD)) | (apply SY.build1'; (exact eD); ((try simp only [List.map_cons, List.map_nil]); (repeat (first | exact ElsD.nl | (apply ElsD.cn; (first | exact OpD.t rfl | exact OpD.i | exact OpD.b | exact OpD.tle rfl (by first | exact Dat.le_nil | exact Dat.le_nilK (by decide)) | exact ⟨Dat.le_nil⟩ | exact ⟨Dat.le_nilK (by decide)⟩))))); rfl; rfl; (intro _; first | exact shape_K | exact shape_I | exact shape_A | exact shape_B); (exact (by simp))) | fail); all_goals infer_instance))); dsimp only [setD, z0, z1]) | ((first | apply WL.opN | apply WD.opN); exact yF; dsimp only [setD, z0, z1]) | refine WL.nil ?_ | refine WC.seqK fun Kx hK => ?_ | (refine hK _ _ ?_; clear hK) | refine WC.region ?_ |  (refine WL.rowIs (mAt 5 rfl) fun hvv => ?_; refine WL.ofSW (SW.at 0 rfl fun q => SW.storeS tySi (OpD.t rfl) (OpD.t rfl) (shape_X hvv) (by simp)) fun _ => ?_; dsimp only [setD, z0, z1]) |  (rw [e2]; refine WL.callC (hp1 := core _ _ _) (caps := []) (hA v) Try.call78 OpD.f (by (exact aD)) ?_; rintro d' hp2 ⟨v2, rfl⟩; dsimp only [setD, z0, z1, List.cons_append, List.nil_append]) | ((first | apply WL.opN | apply WD.opN); (focus ((first | (exact SY.nilCk (OpD.t rfl)) | (refine SY.fldS strS (OpD.t rfl) (by decide)) | fail); all_goals infer_instance)); dsimp only [setD, z0, z1]))); all_goals (first | ((repeat clear hK); (repeat clear Kx))))
  all_goals try (exfalso; omega)
  exact ⟨trivial, _, rfl, _, _, rfl⟩
end Go.Proofs.Ytpiidgcljlalmaa
