/- Part 12: walks by contracts, and plain laws. -/
import Derived.Test.YtjmignmnlpamjaaGreatVa11
set_option linter.unusedVariables false
set_option linter.unusedSimpArgs false
set_option linter.unusedSectionVars false
set_option maxRecDepth 100000
set_option maxHeartbeats 4000000
namespace Go.Proofs.YtjmignmnlpamjaaGreat.S43
section
section
variable {V : Nat} {s : SS}
theorem ZMo {t : List Int} {lev : Nat -> Nat} {l : Int} {L q : Nat} {a b : Int} (hu : ∀ x ∈ t, x.natAbs ≠ l.natAbs) (hq : q ≤ t.length)
  (h : (-a ∈ t.take q -> b ∈ t /\ lev b.natAbs ≤ lev a.natAbs) /\ (-b ∈ t.take q -> a ∈ t /\ lev a.natAbs ≤ lev b.natAbs)) :
  (-a ∈ (t ++ [l]).take q -> b ∈ t ++ [l] /\ up lev l.natAbs L b.natAbs ≤ up lev l.natAbs L a.natAbs) /\ (-b ∈ (t ++ [l]).take q -> a ∈ t ++ [l] /\ up lev l.natAbs L a.natAbs ≤ up lev l.natAbs L b.natAbs) := by
 have hk : ∀ y : Int, (y ∈ t \/ -y ∈ t) -> up lev l.natAbs L y.natAbs = lev y.natAbs := fun y hy => up_ne (by
  rcases hy with hy | hy
  ·exact hu y hy
  ·have := hu (-y) hy
   rwa [Int.natAbs_neg] at this)
 rw [List.take_append_of_le_length hq]
 refine ⟨fun q1 => ?_, fun q1 => ?_⟩
 ·obtain ⟨g1, g2⟩ := h.1 q1
  exact ⟨List.mem_append_left _ g1, by rw [hk b (.inl g1), hk a (.inr (List.mem_of_mem_take q1))]; exact g2⟩
 ·obtain ⟨g1, g2⟩ := h.2 q1
  exact ⟨List.mem_append_left _ g1, by rw [hk a (.inl g1), hk b (.inr (List.mem_of_mem_take q1))]; exact g2⟩
theorem app_last {l : List Cl} {c : Cl} {k : Nat} {x : Cl} (e : (l ++ [c])[k]? = some x) : (k < l.length /\ l[k]? = some x) \/ (k = l.length /\ x = c) := by
 by_cases hk : k < l.length
 ·rw [List.getElem?_append_left hk] at e
  exact .inl ⟨hk, e⟩
 ·rw [List.getElem?_append_right (by omega)] at e
  have h1 := (List.getElem?_eq_some_iff.1 e).1
  simp only [List.length_singleton] at h1
  have hp0 : k - l.length = 0 := by omega
  rw [hp0] at e
  exact .inr ⟨by omega, by simpa using e.symm⟩
theorem ZJw {l : List Cl} {c : Cl} : (l ++ [c])[l.length]? = some c := by
 rw [List.getElem?_append_right (Nat.le_refl _), Nat.sub_self]; rfl
theorem Inv.add (h : Inv V s s.watch fun _ => False) (hb : s.begins = []) {c : Cl} (hr : ∀ x ∈ c, x ≠ 0 /\ x.natAbs ≤ V) (hd : c.Pairwise fun x y => x.natAbs ≠ y.natAbs) (hh : 2 ≤ c.length -> s.head = 0) :
  (Inv V (ZA7 s c) (ZA7 s c).watch fun _ => False) /\ (ZA7 s c).begins = [] /\ (ZA7 s c).head = s.head /\ (ZA7 s c).list = s.list ++ [c] /\ ∃ t, (ZA7 s c).trail = s.trail ++ t := by
 have hl0 : ∀ x ∈ s.trail, s.lev x.natAbs = 0 := fun x hx => by
  have := h.lev_le hx
  rw [hb] at this
  exact Nat.le_zero.1 this
 match c, hr, hd, hh with
 | [], hr, hd, _ =>
  refine ⟨⟨h.toInv0.app1 (d := true) (by simp) hr (fun _ => rfl) (fun _ => rfl) (fun q => by cases q), fun k a b r e q hq hE => ?_⟩, hb, rfl, rfl, [], (List.append_nil _).symm⟩
  rcases app_last e with ⟨_, e1⟩ | ⟨_, e1⟩
  ·exact h.two k a b r e1 q hq hE
  ·cases e1
 | [a], hr, hd, _ =>
  by_cases h1 : s.val (-a) = true
  ·have e : ZA7 s [a] = { s with list := s.list ++ [[a]], dead := true } := if_pos h1
   rw [e]
   refine ⟨⟨h.toInv0.app1 (d := true) (by simp) hr (fun _ => rfl) (fun _ => rfl) (fun q => by cases q), fun k x b r ek q hq hE => ?_⟩, hb, rfl, rfl, [], (List.append_nil _).symm⟩
   rcases app_last ek with ⟨_, e1⟩ | ⟨_, e1⟩
   ·exact h.two k x b r e1 q hq hE
   ·cases e1
  ·by_cases h2 : s.val a = true
   ·have e : ZA7 s [a] = { s with list := s.list ++ [[a]] } := (if_neg h1).trans (if_pos h2)
    rw [e]
    have ham := (h.val a).1 h2
    refine ⟨⟨h.toInv0.app1 (d := s.dead) (by simp) hr id (fun q => by cases q) (fun _ x q => by cases q; exact ⟨ham, hl0 _ ham⟩), fun k x b r ek q hq hE => ?_⟩, hb, rfl, rfl, [], (List.append_nil _).symm⟩
    rcases app_last ek with ⟨_, e1⟩ | ⟨_, e1⟩
    ·exact h.two k x b r e1 q hq hE
    ·cases e1
   ·have e : ZA7 s [a] = Zq { s with list := s.list ++ [[a]] } a (some s.list.length) := (if_neg h1).trans (if_neg h2)
    rw [e]
    have hu : ∀ x ∈ s.trail, x.natAbs ≠ a.natAbs := fun z hz q => by
     rcases Int.natAbs_eq_natAbs_iff.1 q with q | q
     ·exact h2 ((h.val a).2 (q ▸ hz))
     ·exact h1 ((h.val (-a)).2 (q ▸ hz))
    have h3 : Inv0 V { s with list := s.list ++ [[a]], dead := true } s.watch := h.toInv0.app1 (d := true) (by simp) hr (fun _ => rfl) (fun _ => rfl) (fun q => by cases q)
    have h4 := h3.assign (l := a) (r := some s.list.length) hu (hr a (by simp)) (fun k q => by cases q; exact ⟨[a], ZJw, by simp, fun y hy hne => absurd (List.mem_singleton.1 hy) hne⟩) (fun q => by cases q)
    refine ⟨⟨ZHQ (s := Zq { s with list := s.list ++ [[a]] } a (some s.list.length)) h4 (fun hdd x hx => ?_) (fun q => ?_), fun k x b r ek q hq hE => ?_⟩, hb, rfl, rfl, [a], rfl⟩
    ·rcases List.mem_append.1 hx with hx | hx
     ·obtain ⟨g1, g2⟩ := h.unit hdd x hx
      refine ⟨List.mem_append_left _ g1, ?_⟩
      show up s.lev a.natAbs s.begins.length x.natAbs = 0
      rw [up_ne (hu x g1)]; exact g2
     ·have : x = a := by simpa using hx
      subst this
      refine ⟨List.mem_append_right _ (by simp), ?_⟩
      show up s.lev x.natAbs s.begins.length x.natAbs = 0
      rw [up_eq, hb]; rfl
    ·rcases List.mem_append.1 q with q | q
     ·exact h.emp q
     ·simp at q
    ·rcases app_last ek with ⟨_, e1⟩ | ⟨_, e1⟩
     ·exact ZMo hu (Nat.le_trans hq h.hl) (h.two k x b r e1 q hq hE)
     ·cases e1
 | a :: b :: r, hr, hd, hh =>
  refine ⟨⟨h.toInv0.app2 hr hd, fun k x y rr ek q hq hE => ?_⟩, hb, rfl, rfl, [], (List.append_nil _).symm⟩
  have h0 := hh (by simp)
  have hq0 : q = 0 := by
   have : q ≤ s.head := hq
   omega
  subst hq0
  exact ⟨(fun q => by cases q), fun q => by cases q⟩
def Zk (s : SS) (c : Cl) : SS := if 1 < c.length then Zq (ZA7 s c) (c.getD 0 0) (some s.list.length) else ZA7 s c
theorem Inv.learned (h : Inv V s s.watch fun _ => False) (hh : s.head = s.trail.length) {x : Int} {rest : List Int} (hx : ∀ y ∈ s.trail, y.natAbs ≠ x.natAbs) (hxr : x ≠ 0 /\ x.natAbs ≤ V) (hd : (-x :: rest).Pairwise fun x y => x.natAbs ≠ y.natAbs)
  (hr : ∀ y ∈ rest, -y ∈ s.trail /\ s.lev y.natAbs ≤ s.begins.length) (h0 : rest = [] -> s.begins = []) (h1 : ∀ b r, rest = b :: r -> s.lev b.natAbs = s.begins.length) :
  (Inv V (Zk s (-x :: rest)) (Zk s (-x :: rest)).watch fun _ => False) /\ (Zk s (-x :: rest)).begins = s.begins /\ (Zk s (-x :: rest)).head = s.head /\ (Zk s (-x :: rest)).list = s.list ++ [-x :: rest] /\ (Zk s (-x :: rest)).trail = s.trail ++ [-x] /\ (Zk s (-x :: rest)).dead = s.dead /\ (Zk s (-x :: rest)).rea = up s.rea (-x).natAbs (some s.list.length) := by
 have hrng : ∀ y ∈ -x :: rest, y ≠ 0 /\ y.natAbs ≤ V := fun y hy => by
  rcases List.mem_cons.1 hy with rfl | hy
  ·exact ⟨by omega, by rw [Int.natAbs_neg]; exact hxr.2⟩
  ·have := h.trng _ (hr y hy).1
   rw [Int.natAbs_neg] at this
   exact ⟨by omega, this.2⟩
 have hu : ∀ y ∈ s.trail, y.natAbs ≠ (-x).natAbs := fun y hy => by rw [Int.natAbs_neg]; exact hx y hy
 match rest, hd, hr, h0, h1, hrng with
 | [], hd, hr, h0, h1, hrng =>
  have e : Zk s [-x] = ZA7 s [-x] := if_neg (by simp)
  have v1 : s.val (- -x) = false := by
   cases hq : s.val (- -x)
   ·rfl
   ·exact absurd (by simp) (hx _ ((h.val _).1 hq))
  have v2 : s.val (-x) = false := by
   cases hq : s.val (-x)
   ·rfl
   ·exact absurd (by simp) (hx _ ((h.val _).1 hq))
  have e2 : ZA7 s [-x] = Zq { s with list := s.list ++ [[-x]] } (-x) (some s.list.length) := by
   unfold ZA7
   simp only
   rw [v1, v2]
   rfl
  obtain ⟨a1, a2, a3, a4, _⟩ := h.add (h0 rfl) hrng hd (by simp)
  rw [e]
  refine ⟨a1, by rw [a2, h0 rfl], a3, a4, by rw [e2]; rfl, by rw [e2]; rfl, by rw [e2]; rfl⟩
 | b :: r, hd, hr, _, h1, hrng =>
  have e : Zk s (-x :: b :: r) = Zq (ZA7 s (-x :: b :: r)) (-x) (some s.list.length) := if_pos (by simp)
  have hA := (h.toInv0.app2 hrng hd).assign (l := -x) (r := some s.list.length) hu (hrng _ (by simp)) (fun k q => by
   cases q
   exact ⟨-x :: b :: r, ZJw, by simp, fun y hy hne => by
    rcases List.mem_cons.1 hy with rfl | hy
    ·exact absurd rfl hne
    ·exact (hr y hy).1⟩) (fun q => by cases q)
  rw [e]
  refine ⟨⟨hA, fun k y z rr ek q hq hE => ?_⟩, rfl, rfl, rfl, rfl, rfl, rfl⟩
  have hq' : q ≤ s.head := hq
  rcases app_last ek with ⟨_, e1⟩ | ⟨_, e1⟩
  ·exact ZMo (t := s.trail) hu (show q ≤ s.trail.length by omega) (h.two k y z rr e1 q hq' fun q => q.elim)
  ·cases e1
   have htk : (s.trail ++ [-x]).take q = s.trail.take q := List.take_append_of_le_length (by omega)
   have hbx : b.natAbs ≠ (-x).natAbs := fun q => (List.pairwise_cons.1 hd).1 b (by simp) q.symm
   refine ⟨fun q1 => ?_, fun _ => ⟨List.mem_append_right _ (by simp), ?_⟩⟩
   ·have q2 : - -x ∈ s.trail.take q := htk ▸ q1
    exact absurd (by simp) (hx _ (List.mem_of_mem_take q2))
   ·show up s.lev (-x).natAbs s.begins.length (-x).natAbs ≤ up s.lev (-x).natAbs s.begins.length b.natAbs
    rw [up_eq, up_ne hbx, h1 b r rfl]
    exact Nat.le_refl _
def ZCH (s : SS) : SS := { s with begins := s.begins ++ [s.trail.length] }
theorem Inv.level (h : Inv V s s.watch fun _ => False) (hh : s.head = s.trail.length) : Inv V (ZCH s) (ZCH s).watch fun _ => False := by
 refine ⟨⟨h.rng, h.dis, h.trng, h.tdis, h.val, ?_, fun b hb => ?_, h.hl, fun p x e => ?_, h.un, h.rea, fun p x e q => List.mem_append_left _ (h.dec p x e q), h.wok, h.wmem, h.wnd, h.unit, h.emp⟩, h.two⟩
 ·refine List.pairwise_append.2 ⟨h.bs, by simp, fun a ha b hb => ?_⟩
  rw [List.mem_singleton.1 hb, <- hh]
  exact h.bh a ha
 ·show b ≤ s.head
  rcases List.mem_append.1 hb with hb | hb
  ·exact h.bh b hb
  ·rw [List.mem_singleton.1 hb, hh]; exact Nat.le_refl _
 ·show s.lev x.natAbs = lvp (s.begins ++ [s.trail.length]) p
  rw [ZBA, h.lev p x e, ZDW (bs := [s.trail.length]) fun b hb => by
   rw [List.mem_singleton.1 hb]
   exact (List.getElem?_eq_some_iff.1 e).1]
  rfl
def ZAI (s : SS) (l : Int) : SS := Zq (ZCH s) l none
theorem Inv.decide (h : Inv V s s.watch fun _ => False) (hh : s.head = s.trail.length) {l : Int} (hl : l ≠ 0 /\ l.natAbs ≤ V) (hu : ∀ x ∈ s.trail, x.natAbs ≠ l.natAbs) : Inv V (ZAI s l) (ZAI s l).watch fun _ => False :=
 (h.level hh).assign hu hl (fun k q => by cases q) fun _ => List.mem_append_right _ (by exact List.mem_singleton.2 rfl)
def ZBX : SS := { list := [], watch := fun _ => [], val := fun _ => false, lev := fun _ => 0, rea := fun _ => none, trail := [], begins := [], head := 0, dead := false }
theorem ZH3 (V : Nat) : Inv V ZBX ZBX.watch fun _ => False := by
 refine ⟨⟨?_, ?_, ?_, ?_, ?_, ?_, ?_, ?_, ?_, ?_, ?_, ?_, ?_, ?_, ?_, ?_, ?_⟩, ?_⟩ <;> simp [ZBX]
def ZAO (l : List Cl) : SS := l.foldl ZA7 ZBX
theorem begin_ok {V : Nat} {l : List Cl} (hr : ∀ c ∈ l, (∀ x ∈ c, x ≠ 0 /\ x.natAbs ≤ V) /\ c.Pairwise fun x y => x.natAbs ≠ y.natAbs) : (Inv V (ZAO l) (ZAO l).watch fun _ => False) /\ (ZAO l).begins = [] /\ (ZAO l).head = 0 /\ (ZAO l).list = l := by
 have go : ∀ (l : List Cl) (s : SS), (∀ c ∈ l, (∀ x ∈ c, x ≠ 0 /\ x.natAbs ≤ V) /\ c.Pairwise fun x y => x.natAbs ≠ y.natAbs) -> (Inv V s s.watch fun _ => False) -> s.begins = [] -> s.head = 0 ->
   (Inv V (l.foldl ZA7 s) (l.foldl ZA7 s).watch fun _ => False) /\ (l.foldl ZA7 s).begins = [] /\ (l.foldl ZA7 s).head = 0 /\ (l.foldl ZA7 s).list = s.list ++ l := by
  intro l
  induction l with
  | nil => intro s _ h hb hh; exact ⟨h, hb, hh, (List.append_nil _).symm⟩
  | cons c l ih =>
   intro s hr h hb hh
   obtain ⟨a1, a2, a3, a4, _⟩ := h.add hb (hr c (by simp)).1 (hr c (by simp)).2 fun _ => hh
   obtain ⟨b1, b2, b3, b4⟩ := ih (ZA7 s c) (fun d hd => hr d (by simp [hd])) a1 a2 (a3.trans hh)
   rw [List.foldl_cons]
   exact ⟨b1, b2, b3, by rw [b4, a4, List.append_assoc]; rfl⟩
 obtain ⟨a1, a2, a3, a4⟩ := go l ZBX hr (ZH3 V) rfl rfl
 exact ⟨a1, a2, a3, a4⟩
end
end
end Go.Proofs.YtjmignmnlpamjaaGreat.S43
namespace Go.Proofs.YtjmignmnlpamjaaGreat
section
open Go.RowKit
open S43 (SS up)
abbrev ZCX : Value := .slice none 0 0
def lits (V : Nat) : List Int := ((List.range V).map fun (i : Nat) => ((i + 1 : Nat) : Int)) ++ (List.range V).map fun (i : Nat) => -((i + 1 : Nat) : Int)
theorem ZF6 {V : Nat} {x : Int} : x ∈ lits V ↔ x ≠ 0 /\ x.natAbs ≤ V := by
 unfold lits
 rw [List.mem_append, List.mem_map, List.mem_map]
 constructor
 ·rintro (⟨i, hi, rfl⟩ | ⟨i, hi, rfl⟩) <;> (have := List.mem_range.1 hi; omega)
 ·rintro ⟨h0, h1⟩
  by_cases h : 0 < x
  ·exact .inl ⟨x.natAbs - 1, List.mem_range.2 (by omega), by omega⟩
  ·exact .inr ⟨x.natAbs - 1, List.mem_range.2 (by omega), by omega⟩
theorem ZDn (V : Nat) : (lits V).Nodup := by
 unfold lits
 rw [List.nodup_append]
 refine ⟨?_, ?_, ?_⟩
 ·exact (List.nodup_range).map (f := fun i => ((i + 1 : Nat) : Int)) fun a b h => by simp at h; omega
 ·exact (List.nodup_range).map (f := fun i => -((i + 1 : Nat) : Int)) fun a b h => by simp at h; omega
 ·intro a ha b hb e
  obtain ⟨i, _, rfl⟩ := List.mem_map.1 ha
  obtain ⟨j, _, rfl⟩ := List.mem_map.1 hb
  omega
structure Lay where
 b : Nat
 bw : Nat
 bv : Nat
 bl : Nat
 br : Nat
 cf : Int
 vL : Value
 vT : Value
 vB : Value
 vN : Value
 u : Nat -> Value
 wv : Int -> Value
def ZEw (val : Int -> Bool) : (Int -> Option Bool) -> Prop := fun g => ∀ x, (g x).getD false = val x
def ZI8 (lev : Nat -> Nat) : (Int -> Option Int) -> Prop := fun g => ∀ v : Nat, (g (v : Int)).getD 0 = (lev v : Int)
def ZHO (rea : Nat -> Option Nat) : (Int -> Option Int) -> Prop := fun g => ∀ v : Nat, g (v : Int) = (rea v).map fun (r : Nat) => (r : Int)
def ZJa (wv : Int -> Value) : (Int -> Option Value) -> Prop := fun g => ∀ x, (g x).getD ZCX = wv x
def ZAj (l : List Nat) : List Int := l.map fun (n : Nat) => (n : Int)
theorem ZAW (l : List Nat) : (ZAj l).length = l.length := List.length_map _
theorem ZLx (l m : List Nat) : ZAj (l ++ m) = ZAj l ++ ZAj m := List.map_append
theorem ZGt (l : List Nat) (k : Nat) : (ZAj l).take k = ZAj (l.take k) := List.map_take.symm
theorem ZF5 {l : List Nat} {k : Nat} (h : k < (ZAj l).length) : (ZAj l)[k] = (l[k]'(by rw [<- ZAW]; exact h) : Int) := List.getElem_map _
abbrev idV : Value -> Value := fun v => v
abbrev tI : TypeId := 3
abbrev ZDZ (X : Lay) : Value := .pointer (some ⟨X.b, 0, none⟩)
abbrev oS (X : Lay) (V : Nat) (s : SS) : HObj := ZBx X.b 103 [dI (V : Int), dX X.vL, dX (.map (some X.bw)), dX (.map (some X.bv)), dX (.map (some X.bl)), dX (.map (some X.br)), dX X.vT, dX X.vB, dI (s.head : Int), dX X.vN, dI X.cf, dB s.dead]
abbrev oV (X : Lay) (s : SS) : HObj := hG X.bv kvI ZAF vvB (ZEw s.val)
abbrev oL (X : Lay) (s : SS) : HObj := hG X.bl kvI ZAF kvI (ZI8 s.lev)
abbrev oR (X : Lay) (s : SS) : HObj := hG X.br kvI ZAF kvI (ZHO s.rea)
abbrev oT (X : Lay) (s : SS) : HObj := ZS X.vT tI RI s.trail
abbrev oB (X : Lay) (s : SS) : HObj := ZS X.vB tI RI (ZAj s.begins)
abbrev core (X : Lay) (V : Nat) (s : SS) : List HObj := [oS X V s, oV X s, oL X s, oR X s, oT X s, oB X s]
abbrev oW (X : Lay) : HObj := hG X.bw kvI ZAF idV (ZJa X.wv)
abbrev oC (X : Lay) (s : SS) : HObj := ZS X.vL 25 ZJe ((List.range s.list.length).map X.u)
abbrev ZEI (X : Lay) (s : SS) : List HObj := gO (List.range s.list.length) X.u tI fun k => s.list.getD k []
abbrev ZEJ (X : Lay) (V : Nat) (s : SS) : List HObj := gO (lits V) X.wv tI fun l => ZAj (s.watch l)
def ZCR (X : Lay) (V : Nat) (s : SS) : List HObj := core X V s ++ oW X :: oC X s :: (ZEI X s ++ ZEJ X V s)
abbrev oN (X : Lay) (lr : List S43.Cl) : HObj := ZS X.vN 25 ZW lr
theorem i64 {x : Int} (h : x.natAbs ≤ 1000000) : ZAF x := by unfold ZAF; omega
theorem ZGB {val : Int -> Bool} {x : Int} {v : Bool} : ∀ f, ZEw val f -> ZEw (up val x v) (upF f x (some v)) := fun f h y => by
 unfold upF up
 by_cases e : y = x
 ·rw [if_pos e, if_pos e]; rfl
 ·rw [if_neg e, if_neg e]; exact h y
theorem ZKm {lev : Nat -> Nat} {v : Nat} {k : Nat} {j : Int} (hj : j = (k : Int)) : ∀ f, ZI8 lev f -> ZI8 (up lev v k) (upF f (v : Int) (some j)) := fun f h y => by
 subst hj
 unfold upF up
 by_cases e : y = v
 ·rw [if_pos (by rw [e]), if_pos e]; rfl
 ·rw [if_neg (by omega), if_neg e]; exact h y
theorem ZKn {rea : Nat -> Option Nat} {v k : Nat} : ∀ f, ZHO rea f -> ZHO (up rea v (some k)) (upF f (v : Int) (some (k : Int))) := fun f h y => by
 unfold upF up
 by_cases e : y = v
 ·rw [if_pos (by rw [e]), if_pos e]; rfl
 ·rw [if_neg (by omega), if_neg e]; exact h y
theorem ZGC {wv : Int -> Value} {x : Int} {v : Value} : ∀ f, ZJa wv f -> ZJa (up wv x v) (upF f x (some v)) := fun f h y => by
 unfold upF up
 by_cases e : y = x
 ·rw [if_pos e, if_pos e]; rfl
 ·rw [if_neg e, if_neg e]; exact h y
section
variable {ops : Array Oper} {hp : List HObj} {fr : List Dat} {dst : Option Tmp} {ty : TypeId} {ps : String} {af : Array Edge} {g : Option (Nat × Bool)} {b : Nat} {x y : Operand}
theorem SY.valG {val : Int -> Bool} {l : Int} (hx : OpD fr x (dX (.map (some b)))) (hm : hG b kvI ZAF vvB (ZEw val) ∈ hp) (hy : OpD fr y (dI l)) (ho : ZAF l) :
  SY Tryz.prog ops hp ⟨dst, .lookup 101 x y false, ty, ps, af, g⟩ fr (dB (val l)) :=
 ZCr ZCk ZAP hx hm hy isI ho fun I w f hf => by
  have := hf l
  cases h : f l <;> rw [h] at this <;> simp at this <;> rw [<- this] <;> rfl
theorem ZDh {lev : Nat -> Nat} {l : Nat} (hx : OpD fr x (dX (.map (some b)))) (hm : hG b kvI ZAF kvI (ZI8 lev) ∈ hp) (hy : OpD fr y (dI (l : Int))) (ho : ZAF (l : Int)) :
  SY Tryz.prog ops hp ⟨dst, .lookup 87 x y false, ty, ps, af, g⟩ fr (dI (lev l : Int)) :=
 ZCr ZCl ZAP hx hm hy isI ho fun I w f hf => by
  have := hf l
  cases h : f (l : Int) <;> rw [h] at this <;> simp at this <;> show _ = _
  ·rw [<- this]; rfl
  ·rw [<- this]; rfl
theorem ZMx {rea : Nat -> Option Nat} {l : Nat} (hx : OpD fr x (dX (.map (some b)))) (hm : hG b kvI ZAF kvI (ZHO rea) ∈ hp) (hy : OpD fr y (dI (l : Int))) (ho : ZAF (l : Int)) :
  SY Tryz.prog ops hp ⟨dst, .lookup 87 x y false, ty, ps, af, g⟩ fr (dI (((rea l).getD 0 : Nat) : Int)) :=
 ZCr ZCl ZAP hx hm hy isI ho fun I w f hf => by
  have := hf l
  rw [this]
  cases rea l <;> rfl
theorem ZLP {rea : Nat -> Option Nat} {l : Nat} (hx : OpD fr x (dX (.map (some b)))) (hm : hG b kvI ZAF kvI (ZHO rea) ∈ hp) (hy : OpD fr y (dI (l : Int))) (ho : ZAF (l : Int)) :
  SY Tryz.prog ops hp ⟨dst, .lookup 87 x y true, ty, ps, af, g⟩ fr (dT [dI (((rea l).getD 0 : Nat) : Int), dB (rea l).isSome]) :=
 (ZJk ZCl ZAP hx hm hy isI ho fun f hf => by
  have := hf l
  rw [this]
  cases rea l
  ·exact ⟨rfl, rfl⟩
  ·exact ⟨rfl, rfl⟩ : SY Tryz.prog ops hp _ fr (dT [dX (.int .i64 (((rea l).getD 0 : Nat) : Int)), dB (rea l).isSome]))
theorem ZHR {wv : Int -> Value} {l : Int} (hx : OpD fr x (dX (.map (some b)))) (hm : hG b kvI ZAF idV (ZJa wv) ∈ hp) (hy : OpD fr y (dI l)) (ho : ZAF l) :
  SY Tryz.prog ops hp ⟨dst, .lookup 100 x y false, ty, ps, af, g⟩ fr (dX (wv l)) :=
 ZCr (R := RVal) (_gR := inferInstance) ZGv ZAP hx hm hy isI ho fun I w f hf => by
  have := hf l
  show _ = _
  rw [<- this]
  cases f l <;> rfl
theorem ZH {ad : Addr} (hx : OpD fr x (dX (.pointer (some ad)))) : SY Tryz.prog ops hp ⟨dst, .nilCheck x, ty, ps, af, g⟩ fr (dX (.pointer (some ad))) := SY.val fun {I w a} ho => by
 have h1 : a.eval x = .pointer (some ad) := hx.get (by simp [Op.operands]) ho
 refine ⟨.pointer (some ad), ?_, rfl⟩
 unfold execOp
 simp only [h1, Sem.run_pure]
end
theorem ZAa (l : Int) (hl : l.natAbs ≤ 1000000) : Fn Tryz.prog 100 [dI l] (dI (l.natAbs : Int)) := by
 (refine Zb Tryz.func100 rfl rfl ?_; simp only [Tryz.ntmps100, List.length_cons, List.length_nil, Nat.reduceAdd, Nat.reduceSub, List.replicate_succ, List.replicate_zero, List.cons_append, List.nil_append])
 have h1 : (if l < -l then -l else l) = (l.natAbs : Int) := by split <;> omega
 ((repeat' (first | (apply WL.opN; exact yF; dsimp only [ZB, z0, z1]) | refine WL.nil ?_ | refine ZA fun Kx hK => ?_ | (refine hK _ _ ?_; clear hK) | refine WC.region ?_ | (apply WL.opN; (focus ((first | (exact SY.neg (OpD.t rfl) (by omega)) | (exact h1 ▸ ZMu (OpD.t rfl) (OpD.t rfl)) | fail); all_goals infer_instance)); dsimp only [ZB, z0, z1]) | refine WC.ret ?_)); all_goals (first | ((repeat clear hK); (repeat clear Kx))))
 (refine ⟨trivial, _, rfl, ?_⟩; exact fD)
end
section
open Go.RowKit
open S43 (SS up Zq ZAI ZCH Zz)
def rI : Option Nat -> Int
 | some k => (k : Int)
 | none => -1
set_option maxHeartbeats 4000000 in
theorem ZEb (X : Lay) (V : Nat) (s : SS) (l : Int) (k : Nat) (hk : k ≤ 4611686018427387904) (hl : l.natAbs ≤ 1000000) (ht : s.trail.length ≤ 1000000) :
  CallC Tryz.prog 75 ([dX (ZDZ X), dI l, dI (rI (some k))] ++ ([] : List Value).map dX) (core X V s) (fun _ hp2 => ∃ v, hp2 = core { X with vT := v } V (Zq s l (some k))) := by
 (refine ZA9 Tryz.func75 rfl rfl (fun hp => ?_); simp only [Tryz.ntmps75, List.length_cons, List.length_nil, List.length_append, List.length_map, Nat.reduceAdd, Nat.reduceSub, List.replicate_succ, List.replicate_zero, List.cons_append, List.nil_append, List.map_cons, List.map_nil, List.append_assoc])
 have hv := ZAa l hl
 have hl2 : ZAF ((l.natAbs : Nat) : Int) := by unfold ZAF; omega
 have e1 : (ZAj s.begins).length = s.begins.length := ZAW _
 have h8 : (s.trail.length + 1) * 8 ≤ 140737488355328 := by omega
 simp only [rI]
 ((repeat' (first |  (apply WC.drawTail (id := 1) 11; kernel_rfl; kernel_rfl; simp only [List.take_succ_cons, List.take_zero, List.drop_succ_cons, List.drop_zero]) |  (apply WC.drawTail (id := 3) 7; kernel_rfl; kernel_rfl; simp only [List.take_succ_cons, List.take_zero, List.drop_succ_cons, List.drop_zero]) | (refine WRd.nil ?_) | (apply ZCB rfl; (focus (intro c hcc; apply SYG.yes; (exact Zi rfl); ((first | (apply SY.call (hv) Tryz.call100; (exact aD)) | (exact ZH (OpD.t rfl)) | (refine ZM ZAz (OpD.t rfl) (by decide)) | (apply ZI; (first | exact tyI | exact ZAl | exact tyF | exact ZBi); exact OpD.t rfl; exact mAt 0 rfl; rfl) | (apply Z3; exact OpD.t rfl; exact mAt 5 rfl; exact elI.unt) | ((first | apply SY.move | apply SY.geq) <;> (exact oD)) | (apply SY.load; (exact tD); (exact oD)) | (apply Z1; (exact tD); (exact oD); (exact (by simp))) | (apply SY.len; (exact oD); (exact nD); (exact uD)) | (apply SY.lenRK; exact OpD.t rfl; (first | exact .head _ | exact .tail _ (.head _)); (exact uD)) | (apply Z3; exact OpD.t rfl; (first | exact .head _ | exact .tail _ (.head _)); (exact uD)) | (apply ZT clT; exact OpD.t rfl) | (apply ZU clT; exact OpD.t rfl) | (apply SY.buildE; (exact eD); ((try simp only [List.map_cons, List.map_nil]); (repeat (first | exact Zy | (apply Zt; (first | exact OpD.t rfl | exact Zl | exact OpD.b | exact OpD.tle rfl (by first | exact ZD | exact ZE (by decide)) | exact ⟨ZD⟩ | exact ⟨ZE (by decide)⟩))))); rfl; rfl; decide; (intro _; exact ZHs); (exact (by simp))) | (apply SY.build1'; (exact eD); ((try simp only [List.map_cons, List.map_nil]); (repeat (first | exact Zy | (apply Zt; (first | exact OpD.t rfl | exact Zl | exact OpD.b | exact OpD.tle rfl (by first | exact ZD | exact ZE (by decide)) | exact ⟨ZD⟩ | exact ⟨ZE (by decide)⟩))))); rfl; rfl; (intro _; first | exact ZAY | exact Zf | exact ZAA | exact ZAJ); (exact (by simp))) | (apply SY.buildE; (exact eD); ((try simp only [List.map_cons, List.map_nil]); (repeat (first | exact Zy | (apply Zt; (first | exact OpD.t rfl | exact Zl | exact OpD.b | exact OpD.tle rfl (by first | exact ZD | exact ZE (by decide)) | exact ⟨ZD⟩ | exact ⟨ZE (by decide)⟩))))); rfl; rfl; decide; (intro _; exact ZBo); (exact (by simp))) | fail); all_goals infer_instance))); dsimp only [ZB, z0, z1]) | ((first | apply WL.opN | apply WD.opN); exact yF; dsimp only [ZB, z0, z1]) | refine WL.nil ?_ | refine WD.nil ?_ | refine ZA fun Kx hK => ?_ | (refine hK _ _ ?_; clear hK) | (refine Kont.skip ?_; clear hK) | refine WC.region ?_ | (apply WC.draw; kernel_rfl; kernel_rfl) |  (refine ZK (SW.at 1 rfl fun q => ZA6 (ZEw (up s.val l true)) ZCk ZAP (OpD.t rfl) (OpD.t rfl) isI OpD.b isB (i64 hl) (fun f hf => ZGB f hf)) fun _ => ?_; dsimp only [ZB, z0, z1]) |  (refine ZK (SW.at 2 rfl fun q => ZA6 (ZI8 (up s.lev l.natAbs s.begins.length)) ZCl ZAP (OpD.t rfl) (OpD.t rfl) isI (OpD.t rfl) isI hl2 (ZKm (by rw [e1]))) fun _ => ?_; dsimp only [ZB, z0, z1]) |  (refine ZK (SW.at 3 rfl fun q => ZA6 (ZHO (up s.rea l.natAbs (some k))) ZCl ZAP (OpD.t rfl) (OpD.t rfl) isI (OpD.t rfl) isI hl2 ZKn) fun _ => ?_; dsimp only [ZB, z0, z1]) |  (refine ZK (SW.at 4 rfl fun q => SW.app1 elI (OpD.t rfl) (OpD.t rfl) (by decide) h8) fun v => ?_; refine ZBM (mAt 4 rfl) fun hvv => ?_; dsimp only [ZB, z0, z1]) |  (refine ZK (SW.at 0 rfl fun q => SW.storeS ZAl (OpD.t rfl) (OpD.t rfl) (Z8 hvv) (by simp)) fun _ => ?_; dsimp only [ZB, z0, z1]) | ((first | apply WL.pushK | apply ZAS); (exact eD); exact OpD.t rfl; (exact oD); (intro _; exact hD); (exact (by simp)); (exact (by simp)); (first | exact ⟨by decide, by decide⟩ | skip); decide; (exact lD); (intro _; dsimp only [ZB, z0, z1]); all_goals (try infer_instance)) | ((first | apply WL.appK | apply WL.app1); (exact eD); exact OpD.t rfl; (exact oD); decide; (exact lD); (intro _; dsimp only [ZB, z0, z1]); all_goals (try infer_instance)) | ((apply (WL.perm (List.Perm.swap _ _ _)); (first | apply WL.pushK | apply ZAS); (exact eD); exact OpD.t rfl; (exact oD); (intro _; exact hD); (exact (by simp)); (exact (by simp)); (first | exact ⟨by decide, by decide⟩ | skip); decide; (exact lD); (intro _; dsimp only [ZB, z0, z1]); all_goals (try infer_instance))) | ((apply (WL.perm (List.Perm.swap _ _ _)); (first | apply WL.appK | apply WL.app1); (exact eD); exact OpD.t rfl; (exact oD); decide; (exact lD); (intro _; dsimp only [ZB, z0, z1]); all_goals (try infer_instance))) | (apply ZAN; (exact tD); rfl; (exact oD); (exact hD); dsimp only [ZB, z0, z1]) | (apply WL.storeF2; (exact tD); rfl; (exact oD); (exact hD); dsimp only [ZB, z0, z1]) | (apply WL.storeF3; (exact tD); rfl; (exact oD); (exact hD); dsimp only [ZB, z0, z1]) | ((first | apply WL.opN | apply WD.opN); (focus ((first | (apply SY.call (hv) Tryz.call100; (exact aD)) | (exact ZH (OpD.t rfl)) | (refine ZM ZAz (OpD.t rfl) (by decide)) | (apply ZI; (first | exact tyI | exact ZAl | exact tyF | exact ZBi); exact OpD.t rfl; exact mAt 0 rfl; rfl) | (apply Z3; exact OpD.t rfl; exact mAt 5 rfl; exact elI.unt) | ((first | apply SY.move | apply SY.geq) <;> (exact oD)) | (apply SY.build1'; (exact eD); ((try simp only [List.map_cons, List.map_nil]); (repeat (first | exact Zy | (apply Zt; (first | exact OpD.t rfl | exact Zl | exact OpD.b | exact OpD.tle rfl (by first | exact ZD | exact ZE (by decide)) | exact ⟨ZD⟩ | exact ⟨ZE (by decide)⟩))))); rfl; rfl; (intro _; first | exact ZAY | exact Zf | exact ZAA | exact ZAJ); (exact (by simp))) | fail); all_goals infer_instance)); dsimp only [ZB, z0, z1]) | (apply Zj; (exact oD); (with_reducible rfl)) | (apply Zg; (exact oD); (with_reducible rfl)) | (apply ZC; (exact oD); all_goals (intro h; try exact xD)) | (apply ZO; (exact oD); all_goals (intro h; try exact xD)) | (apply ZL; (exact oD); all_goals (intro h; try exact xD)) | (apply WC.cond; (exact oD); all_goals (intro h; try exact xD)) | refine WC.skip ?_ | refine WC.ret ?_ | refine ThenD.n ?_ | refine ThenD.r ?_)); all_goals (first | refine WC.id ?_ | refine WL.id ?_ | ((repeat clear hK); (repeat clear Kx))))
 all_goals try (exfalso; omega)
 exact ⟨trivial, core { X with vT := v } V (Zq s l (some k)), rfl, v, rfl⟩
set_option maxHeartbeats 4000000 in
theorem ZJ3 (X : Lay) (V : Nat) (s : SS) (l : Int)  (hl : l.natAbs ≤ 1000000) (ht : s.trail.length ≤ 1000000) :
  CallC Tryz.prog 75 ([dX (ZDZ X), dI l, dI (rI none)] ++ ([] : List Value).map dX) (core X V s) (fun _ hp2 => ∃ v, hp2 = core { X with vT := v } V (Zq s l none)) := by
 (refine ZA9 Tryz.func75 rfl rfl (fun hp => ?_); simp only [Tryz.ntmps75, List.length_cons, List.length_nil, List.length_append, List.length_map, Nat.reduceAdd, Nat.reduceSub, List.replicate_succ, List.replicate_zero, List.cons_append, List.nil_append, List.map_cons, List.map_nil, List.append_assoc])
 have hv := ZAa l hl
 have hl2 : ZAF ((l.natAbs : Nat) : Int) := by unfold ZAF; omega
 have e1 : (ZAj s.begins).length = s.begins.length := ZAW _
 have h8 : (s.trail.length + 1) * 8 ≤ 140737488355328 := by omega
 simp only [rI]
 ((repeat' (first |  (apply WC.drawTail (id := 1) 11; kernel_rfl; kernel_rfl; simp only [List.take_succ_cons, List.take_zero, List.drop_succ_cons, List.drop_zero]) |  (apply WC.drawTail (id := 3) 7; kernel_rfl; kernel_rfl; simp only [List.take_succ_cons, List.take_zero, List.drop_succ_cons, List.drop_zero]) | (refine WRd.nil ?_) | (apply ZCB rfl; (focus (intro c hcc; apply SYG.yes; (exact Zi rfl); ((first | (apply SY.call (hv) Tryz.call100; (exact aD)) | (exact ZH (OpD.t rfl)) | (refine ZM ZAz (OpD.t rfl) (by decide)) | (apply ZI; (first | exact tyI | exact ZAl | exact tyF | exact ZBi); exact OpD.t rfl; exact mAt 0 rfl; rfl) | (apply Z3; exact OpD.t rfl; exact mAt 5 rfl; exact elI.unt) | ((first | apply SY.move | apply SY.geq) <;> (exact oD)) | (apply SY.load; (exact tD); (exact oD)) | (apply Z1; (exact tD); (exact oD); (exact (by simp))) | (apply SY.len; (exact oD); (exact nD); (exact uD)) | (apply SY.lenRK; exact OpD.t rfl; (first | exact .head _ | exact .tail _ (.head _)); (exact uD)) | (apply Z3; exact OpD.t rfl; (first | exact .head _ | exact .tail _ (.head _)); (exact uD)) | (apply ZT clT; exact OpD.t rfl) | (apply ZU clT; exact OpD.t rfl) | (apply SY.buildE; (exact eD); ((try simp only [List.map_cons, List.map_nil]); (repeat (first | exact Zy | (apply Zt; (first | exact OpD.t rfl | exact Zl | exact OpD.b | exact OpD.tle rfl (by first | exact ZD | exact ZE (by decide)) | exact ⟨ZD⟩ | exact ⟨ZE (by decide)⟩))))); rfl; rfl; decide; (intro _; exact ZHs); (exact (by simp))) | (apply SY.build1'; (exact eD); ((try simp only [List.map_cons, List.map_nil]); (repeat (first | exact Zy | (apply Zt; (first | exact OpD.t rfl | exact Zl | exact OpD.b | exact OpD.tle rfl (by first | exact ZD | exact ZE (by decide)) | exact ⟨ZD⟩ | exact ⟨ZE (by decide)⟩))))); rfl; rfl; (intro _; first | exact ZAY | exact Zf | exact ZAA | exact ZAJ); (exact (by simp))) | (apply SY.buildE; (exact eD); ((try simp only [List.map_cons, List.map_nil]); (repeat (first | exact Zy | (apply Zt; (first | exact OpD.t rfl | exact Zl | exact OpD.b | exact OpD.tle rfl (by first | exact ZD | exact ZE (by decide)) | exact ⟨ZD⟩ | exact ⟨ZE (by decide)⟩))))); rfl; rfl; decide; (intro _; exact ZBo); (exact (by simp))) | fail); all_goals infer_instance))); dsimp only [ZB, z0, z1]) | ((first | apply WL.opN | apply WD.opN); exact yF; dsimp only [ZB, z0, z1]) | refine WL.nil ?_ | refine WD.nil ?_ | refine ZA fun Kx hK => ?_ | (refine hK _ _ ?_; clear hK) | (refine Kont.skip ?_; clear hK) | refine WC.region ?_ | (apply WC.draw; kernel_rfl; kernel_rfl) |  (refine ZK (SW.at 1 rfl fun q => ZA6 (ZEw (up s.val l true)) ZCk ZAP (OpD.t rfl) (OpD.t rfl) isI OpD.b isB (i64 hl) (fun f hf => ZGB f hf)) fun _ => ?_; dsimp only [ZB, z0, z1]) |  (refine ZK (SW.at 2 rfl fun q => ZA6 (ZI8 (up s.lev l.natAbs s.begins.length)) ZCl ZAP (OpD.t rfl) (OpD.t rfl) isI (OpD.t rfl) isI hl2 (ZKm (by rw [e1]))) fun _ => ?_; dsimp only [ZB, z0, z1]) |  (refine ZK (SW.at 3 rfl fun q => ZA6 (ZHO (up s.rea l.natAbs (some k))) ZCl ZAP (OpD.t rfl) (OpD.t rfl) isI (OpD.t rfl) isI hl2 ZKn) fun _ => ?_; dsimp only [ZB, z0, z1]) |  (refine ZK (SW.at 4 rfl fun q => SW.app1 elI (OpD.t rfl) (OpD.t rfl) (by decide) h8) fun v => ?_; refine ZBM (mAt 4 rfl) fun hvv => ?_; dsimp only [ZB, z0, z1]) |  (refine ZK (SW.at 0 rfl fun q => SW.storeS ZAl (OpD.t rfl) (OpD.t rfl) (Z8 hvv) (by simp)) fun _ => ?_; dsimp only [ZB, z0, z1]) | ((first | apply WL.pushK | apply ZAS); (exact eD); exact OpD.t rfl; (exact oD); (intro _; exact hD); (exact (by simp)); (exact (by simp)); (first | exact ⟨by decide, by decide⟩ | skip); decide; (exact lD); (intro _; dsimp only [ZB, z0, z1]); all_goals (try infer_instance)) | ((first | apply WL.appK | apply WL.app1); (exact eD); exact OpD.t rfl; (exact oD); decide; (exact lD); (intro _; dsimp only [ZB, z0, z1]); all_goals (try infer_instance)) | ((apply (WL.perm (List.Perm.swap _ _ _)); (first | apply WL.pushK | apply ZAS); (exact eD); exact OpD.t rfl; (exact oD); (intro _; exact hD); (exact (by simp)); (exact (by simp)); (first | exact ⟨by decide, by decide⟩ | skip); decide; (exact lD); (intro _; dsimp only [ZB, z0, z1]); all_goals (try infer_instance))) | ((apply (WL.perm (List.Perm.swap _ _ _)); (first | apply WL.appK | apply WL.app1); (exact eD); exact OpD.t rfl; (exact oD); decide; (exact lD); (intro _; dsimp only [ZB, z0, z1]); all_goals (try infer_instance))) | (apply ZAN; (exact tD); rfl; (exact oD); (exact hD); dsimp only [ZB, z0, z1]) | (apply WL.storeF2; (exact tD); rfl; (exact oD); (exact hD); dsimp only [ZB, z0, z1]) | (apply WL.storeF3; (exact tD); rfl; (exact oD); (exact hD); dsimp only [ZB, z0, z1]) | ((first | apply WL.opN | apply WD.opN); (focus ((first | (apply SY.call (hv) Tryz.call100; (exact aD)) | (exact ZH (OpD.t rfl)) | (refine ZM ZAz (OpD.t rfl) (by decide)) | (apply ZI; (first | exact tyI | exact ZAl | exact tyF | exact ZBi); exact OpD.t rfl; exact mAt 0 rfl; rfl) | (apply Z3; exact OpD.t rfl; exact mAt 5 rfl; exact elI.unt) | ((first | apply SY.move | apply SY.geq) <;> (exact oD)) | (apply SY.build1'; (exact eD); ((try simp only [List.map_cons, List.map_nil]); (repeat (first | exact Zy | (apply Zt; (first | exact OpD.t rfl | exact Zl | exact OpD.b | exact OpD.tle rfl (by first | exact ZD | exact ZE (by decide)) | exact ⟨ZD⟩ | exact ⟨ZE (by decide)⟩))))); rfl; rfl; (intro _; first | exact ZAY | exact Zf | exact ZAA | exact ZAJ); (exact (by simp))) | fail); all_goals infer_instance)); dsimp only [ZB, z0, z1]) | (apply Zj; (exact oD); (with_reducible rfl)) | (apply Zg; (exact oD); (with_reducible rfl)) | (apply ZC; (exact oD); all_goals (intro h; try exact xD)) | (apply ZO; (exact oD); all_goals (intro h; try exact xD)) | (apply ZL; (exact oD); all_goals (intro h; try exact xD)) | (apply WC.cond; (exact oD); all_goals (intro h; try exact xD)) | refine WC.skip ?_ | refine WC.ret ?_ | refine ThenD.n ?_ | refine ThenD.r ?_)); all_goals (first | refine WC.id ?_ | refine WL.id ?_ | ((repeat clear hK); (repeat clear Kx))))
 all_goals try (exfalso; omega)
 exact ⟨trivial, core { X with vT := v } V (Zq s l none), rfl, v, rfl⟩
set_option maxHeartbeats 4000000 in
theorem ZLk (X : Lay) (V : Nat) (s : SS) (l : Int) (hl : l.natAbs ≤ 1000000) (ht : s.trail.length ≤ 1000000) (hb : s.begins.length ≤ 1000000) :
  CallC Tryz.prog 78 ([dX (ZDZ X), dI l] ++ ([] : List Value).map dX) (core X V s) (fun _ hp2 => ∃ v v', hp2 = core { X with vT := v, vB := v' } V (ZAI s l)) := by
 (refine ZA9 Tryz.func78 rfl rfl (fun hp => ?_); simp only [Tryz.ntmps78, List.length_cons, List.length_nil, List.length_append, List.length_map, Nat.reduceAdd, Nat.reduceSub, List.replicate_succ, List.replicate_zero, List.cons_append, List.nil_append, List.map_cons, List.map_nil, List.append_assoc])
 have h8 : ((ZAj s.begins).length + 1) * 8 ≤ 140737488355328 := by rw [ZAW]; omega
 have hA := fun v => ZJ3 { X with vB := v } V (ZCH s) l hl (by exact ht)
 have e2 : ZAj s.begins ++ [(s.trail.length : Int)] = ZAj (s.begins ++ [s.trail.length]) := by simp [ZAj]
 ((repeat' (first |  (refine WC.drawM (fun hp' => oS X V s ∈ hp' /\ oT X s ∈ hp') 12 3 [(0, false), (1, false), (2, false), (3, false), (4, false), (5, false), (6, false), (7, false), (8, false), (9, false), (10, false), (11, true)] [true, true, true, true, true, true, true, true, true, true, true, true, false, false, false] (by kernel_rfl) (by kernel_rfl) (by kernel_rfl) rfl (⟨mAt 0 rfl, mAt 4 rfl⟩) ?_) |  (first | refine WA.one (S := [true, true, true, true, true, true, true, true, true, true, true, true, false, false, false]) (i := 12) (by kernel_rfl) rfl ?_ | refine WA.one (S := [true, true, true, true, true, true, true, true, true, true, true, true, true, false, false]) (i := 13) (by kernel_rfl) rfl ?_ | refine WA.one (S := [true, true, true, true, true, true, true, true, true, true, true, true, true, true, false]) (i := 14) (by kernel_rfl) rfl ?_ | refine WA.nil (S := [true, true, true, true, true, true, true, true, true, true, true, true, true, true, true]) (by kernel_rfl) ?_) |  (refine ZAf rfl (SW.at 5 rfl fun q => SW.app1 elI (OpD.t rfl) (OpD.t rfl) (by decide) h8) (fun _ => ⟨mAt 0 rfl, mAt 4 rfl⟩) fun v => ?_; dsimp only [ZB, z0, z1]) | (refine WM.nil ?_) | (apply ZBC rfl; (focus (intro c hcc; apply SYG.yes; (exact Zi rfl); ((first | (exact ZH (OpD.t rfl)) | (refine ZM ZAz (OpD.t rfl) (by decide)) | (apply ZI; (first | exact tyI | exact ZAl | exact tyF | exact ZBi); exact OpD.t rfl; exact hcc.1; rfl) | (apply Z3; exact OpD.t rfl; exact hcc.2; exact elI.unt) | ((first | apply SY.move) <;> (exact oD)) | (apply SY.build1'; (exact eD); ((try simp only [List.map_cons, List.map_nil]); (repeat (first | exact Zy | (apply Zt; (first | exact OpD.t rfl | exact Zl | exact OpD.b | exact OpD.tle rfl (by first | exact ZD | exact ZE (by decide)) | exact ⟨ZD⟩ | exact ⟨ZE (by decide)⟩))))); rfl; rfl; (intro _; first | exact ZAY | exact Zf | exact ZAA | exact ZAJ); (exact (by simp))) | fail); all_goals infer_instance))); dsimp only [ZB, z0, z1]) | ((first | apply WL.opN | apply WD.opN); exact yF; dsimp only [ZB, z0, z1]) | refine WL.nil ?_ | refine ZA fun Kx hK => ?_ | (refine hK _ _ ?_; clear hK) | refine WC.region ?_ |  (refine ZBM (mAt 5 rfl) fun hvv => ?_; refine ZK (SW.at 0 rfl fun q => SW.storeS ZAl (OpD.t rfl) (OpD.t rfl) (Z8 hvv) (by simp)) fun _ => ?_; dsimp only [ZB, z0, z1]) |  (rw [e2]; refine WL.callC (hp1 := core _ _ _) (caps := []) (hA v) Tryz.call75 OpD.f (by (exact aD)) ?_; rintro d' hp2 ⟨v2, rfl⟩; dsimp only [ZB, z0, z1, List.cons_append, List.nil_append]) | ((first | apply WL.opN | apply WD.opN); (focus ((first | (exact ZH (OpD.t rfl)) | (refine ZM ZAz (OpD.t rfl) (by decide)) | fail); all_goals infer_instance)); dsimp only [ZB, z0, z1]))); all_goals (first | ((repeat clear hK); (repeat clear Kx))))
 all_goals try (exfalso; omega)
 exact ⟨trivial, _, rfl, _, _, rfl⟩
end
end Go.Proofs.YtjmignmnlpamjaaGreat
