/- Part 7: walks by contracts, and plain laws. -/
import Derived.Deep.MidRow
import Derived.Test.YtmcllakdbgnfiaaGreatDoorVg6
set_option linter.unusedVariables false
set_option linter.unusedSimpArgs false
set_option linter.unusedSectionVars false
set_option maxRecDepth 100000
set_option maxHeartbeats 4000000
namespace Go.Proofs.YtmcllakdbgnfiaaGreatDoor
section

abbrev Vx := Int × Int
def ZAX (a b : Vx) : Int := if a.1 < b.1 then -1 else if b.1 < a.1 then 1 else if a.2 < b.2 then -1 else if b.2 < a.2 then 1 else 0
def rngV (v : Vx) : Bool := decide (0 <= v.1) && decide (v.1 < 8) && decide (0 <= v.2) && decide (v.2 <= 1048576)
def ZAc : List Vx -> List Vx -> Int
 | [], [] => 0
 | [], _ :: _ => -1
 | _ :: _, [] => 1
 | x :: a, y :: b => if ZAX x y = 0 then ZAc a b else ZAX x y
def chkG : Option Vx -> List Vx -> Int
 | _, [] => 0
 | p, v :: s => if rngV v = false then 2 else if (match p with | some u => decide (0 <= ZAX u v) | none => false) = true then 14 else chkG (some v) s
def Zn (s : List Vx) : Int := if s.length = 0 then 16 else if 8 < s.length then 5 else chkG none s
def insV : List Vx -> Vx -> List Vx
 | [], v => [v]
 | u :: s, v => if ZAX v u < 0 then v :: u :: s else u :: insV s v
def putV (s : List Vx) (v : Vx) : List Vx := if v ∈ s then s else insV s v

theorem ZBA (a b : Vx) : (ZAX a b = -1 /\ ZAX b a = 1) \/ (ZAX a b = 1 /\ ZAX b a = -1) \/ (ZAX a b = 0 /\ ZAX b a = 0 /\ a = b) := by
 obtain ⟨x, y⟩ := a
 obtain ⟨u, v⟩ := b
 simp only [ZAX, Prod.mk.injEq]
 repeat' split
 all_goals omega
theorem ZBR {a b : Vx} : ZAX a b = 0 ↔ a = b := by
 constructor
 ·intro h
  rcases ZBA a b with h' | h' | h'
  ·omega
  ·omega
  ·exact h'.2.2
 ·rintro rfl
  rcases ZBA a a with h' | h' | h' <;> omega
theorem cmpV_neg (a b : Vx) : ZAX b a = - ZAX a b := by
 rcases ZBA a b with h' | h' | h' <;> omega
theorem ZBD {a b c : Vx} (h : ZAX a b < 0) (h' : ZAX b c < 0) : ZAX a c < 0 := by
 obtain ⟨x, y⟩ := a
 obtain ⟨u, v⟩ := b
 obtain ⟨p, q⟩ := c
 revert h h'
 simp only [ZAX]
 repeat' split
 all_goals omega

def Asc (s : List Vx) : Prop := s.Pairwise fun a b => ZAX a b < 0

theorem ZCa : ∀ {a b : List Vx}, Asc a -> Asc b -> (∀ x, x ∈ a ↔ x ∈ b) -> a = b
 | [], [], _, _, _ => rfl
 | [], y :: b, _, _, h => absurd ((h y).2 (by simp)) (by simp)
 | x :: a, [], _, _, h => absurd ((h x).1 (by simp)) (by simp)
 | x :: a, y :: b, ha, hb, h => by
  unfold Asc at ha hb
  rw [List.pairwise_cons] at ha hb
  have hxy : x = y := by
   have h1 := (h x).1 (by simp)
   have h2 := (h y).2 (by simp)
   rw [List.mem_cons] at h1 h2
   rcases h1 with h1 | h1
   ·exact h1
   rcases h2 with h2 | h2
   ·exact h2.symm
   have h3 := hb.1 x h1
   have h4 := ha.1 y h2
   have := cmpV_neg x y
   omega
  subst hxy
  congr 1
  refine ZCa ha.2 hb.2 fun z => ?_
  have hz := h z
  rw [List.mem_cons, List.mem_cons] at hz
  have hne : ∀ {l : List Vx}, (∀ a ∈ l, ZAX x a < 0) -> z ∈ l -> z ≠ x := by
   intro l hl hm he
   subst he
   have := hl z hm
   rw [ZBR.2 rfl] at this
   omega
  constructor
  ·intro hm
   rcases hz.1 (.inr hm) with h1 | h1
   ·exact absurd h1 (hne ha.1 hm)
   ·exact h1
  ·intro hm
   rcases hz.2 (.inr hm) with h1 | h1
   ·exact absurd h1 (hne hb.1 hm)
   ·exact h1

theorem mem_insV : ∀ {s : List Vx} {v x : Vx}, x ∈ insV s v ↔ x = v \/ x ∈ s
 | [], v, x => by simp [insV]
 | u :: s, v, x => by
  unfold insV
  split
  ·simp
  ·rw [List.mem_cons, mem_insV, List.mem_cons]
   constructor
   ·rintro (h | h | h) <;> simp [h]
   ·rintro (h | h | h) <;> simp [h]
theorem mem_putV {s : List Vx} {v x : Vx} : x ∈ putV s v ↔ x = v \/ x ∈ s := by
 unfold putV
 split
 ·rename_i h
  constructor
  ·exact fun hx => .inr hx
  ·rintro (rfl | hx)
   ·exact h
   ·exact hx
 ·exact mem_insV
theorem asc_insV : ∀ {s : List Vx} {v : Vx}, Asc s -> v ∉ s -> Asc (insV s v)
 | [], v, _, _ => by simp [insV, Asc]
 | u :: s, v, hs, hv => by
  unfold Asc at hs
  have hs' := hs
  rw [List.pairwise_cons] at hs
  unfold insV
  split
  ·rename_i hlt
   unfold Asc
   rw [List.pairwise_cons]
   refine ⟨fun y hy => ?_, hs'⟩
   rw [List.mem_cons] at hy
   rcases hy with rfl | hy
   ·exact hlt
   ·exact ZBD hlt (hs.1 y hy)
  ·rename_i hge
   unfold Asc
   rw [List.pairwise_cons]
   refine ⟨fun y hy => ?_, asc_insV hs.2 fun h => hv (List.mem_cons_of_mem _ h)⟩
   rw [mem_insV] at hy
   rcases hy with rfl | hy
   ·have hne : y ≠ u := fun h => hv (by rw [h]; simp)
    rcases ZBA u y with h | h | h
    ·omega
    ·omega
    ·exact absurd h.2.2.symm hne
   ·exact hs.1 y hy
theorem asc_putV {s : List Vx} {v : Vx} (hs : Asc s) : Asc (putV s v) := by
 unfold putV
 split
 ·exact hs
 ·exact asc_insV hs (by assumption)

def ZBF (s : List Vx) (l : List Vx) : List Vx := l.foldl putV s
theorem ZCf : ∀ {l s : List Vx}, Asc s -> Asc (ZBF s l)
 | [], _, h => h
 | _ :: l, _, h => ZCf (l := l) (asc_putV h)
theorem ZAq : ∀ {l s : List Vx} {x : Vx}, x ∈ ZBF s l ↔ x ∈ s \/ x ∈ l
 | [], s, x => by simp [ZBF]
 | v :: l, s, x => by
  show x ∈ ZBF (putV s v) l ↔ _
  rw [ZAq, mem_putV, List.mem_cons]
  constructor
  ·rintro ((h | h) | h) <;> simp [h]
  ·rintro (h | h | h) <;> simp [h]

def ofV (l : List Vx) : List Vx × Int := if l.length = 0 then ([], 16) else if l.all rngV = false then ([], 2) else if 8 < (ZBF [] l).length then ([], 5) else (ZBF [] l, 0)
def ZAm (a b : List Vx) : Bool := a.all fun x => decide (x ∈ b)
def ZX : Nat -> List Vx -> List (List Vx)
 | 0, _ => [[]]
 | _ + 1, [] => []
 | k + 1, v :: s => (ZX k s).map (v :: ·) ++ ZX (k + 1) s
def facesV (s : List Vx) (k : Int) : List (List Vx) × Int := if Zn s ≠ 0 then ([], Zn s) else if k < 1 \/ (s.length : Int) < k then ([], 2) else (ZX k.toNat s, 0)
def sharedV (a b : List Vx) (p : Bool) : List Vx := a.filter fun x => decide (x ∈ b) == p
def Zy : List Vx -> Bool
 | [] => true
 | [_] => true
 | u :: v :: s => if u.1 = v.1 then false else Zy (v :: s)
def chromV (s : List Vx) : Bool × Int := if Zn s ≠ 0 then (false, Zn s) else (Zy s, 0)

theorem ZAd {α : Type} {l : List α} {k : Nat} (h : k < l.length) : l.drop k = l[k] :: l.drop (k + 1) := List.drop_eq_getElem_cons h
theorem ZQ {α : Type} {l : List α} {k : Nat} (h : k < l.length) : l.take (k + 1) = l.take k ++ [l[k]] := List.take_succ_eq_append_getElem h
theorem cmpL_drop (a b : List Vx) (k : Nat) : ZAc (a.drop k) (b.drop k) = if h : k < a.length then (if h' : k < b.length then (if ZAX a[k] b[k] = 0 then ZAc (a.drop (k + 1)) (b.drop (k + 1)) else ZAX a[k] b[k]) else 1) else if k < b.length then -1 else 0 := by
 by_cases h : k < a.length
 ·by_cases h' : k < b.length
  ·rw [dif_pos h, dif_pos h', ZAd h, ZAd h']; rfl
  ·rw [dif_pos h, dif_neg h', ZAd h, List.drop_of_length_le (l := b) (by omega)]; rfl
 ·by_cases h' : k < b.length
  ·rw [dif_neg h, if_pos h', ZAd h', List.drop_of_length_le (l := a) (by omega)]; rfl
  ·rw [dif_neg h, if_neg h', List.drop_of_length_le (l := b) (by omega), List.drop_of_length_le (l := a) (by omega)]; rfl
theorem chkG_drop (s : List Vx) (k : Nat) (h : k < s.length) : chkG (s.take k).getLast? (s.drop k) = if rngV s[k] = false then 2 else if (match (s.take k).getLast? with | some u => decide (0 <= ZAX u s[k]) | none => false) = true then 14 else chkG (s.take (k + 1)).getLast? (s.drop (k + 1)) := by
 have e : (s.take (k + 1)).getLast? = some s[k] := by rw [ZQ h, List.getLast?_append]; rfl
 rw [ZAd h, e]
 rfl
theorem last_take (s : List Vx) (k : Nat) (h : k < s.length) (h0 : 0 < k) : (s.take k).getLast? = some s[k - 1] := by
 obtain ⟨j, rfl⟩ : ∃ j, k = j + 1 := ⟨k - 1, by omega⟩
 rw [ZQ (by omega), List.getLast?_append]; rfl

theorem cmpL_step {a b : List Vx} {k : Nat} (h : k < a.length) (h' : k < b.length) (hc : ZAX a[k] b[k] = 0) : ZAc (a.drop k) (b.drop k) = ZAc (a.drop (k + 1)) (b.drop (k + 1)) := by rw [cmpL_drop, dif_pos h, dif_pos h', if_pos hc]
theorem ZA5 {α : Type} {l : List α} {k : Nat} (h : k < l.length) {x : α} : x ∈ l.take (k + 1) ↔ x ∈ l.take k \/ x = l[k] := by rw [ZQ h, List.mem_append, List.mem_singleton]
theorem insV_len : ∀ (s : List Vx) (v : Vx), (insV s v).length = s.length + 1
 | [], _ => rfl
 | u :: s, v => by
  unfold insV
  split
  ·simp
  ·simp [insV_len s v]
theorem putV_len (s : List Vx) (v : Vx) : s.length <= (putV s v).length /\ (putV s v).length <= s.length + 1 := by
 unfold putV
 split
 ·omega
 ·rw [insV_len]; omega
theorem allV_len : ∀ (l s : List Vx), s.length <= (ZBF s l).length /\ (ZBF s l).length <= s.length + l.length
 | [], s => by simp [ZBF]
 | v :: l, s => by
  have h1 := putV_len s v
  have h2 := allV_len l (putV s v)
  show _ <= (ZBF (putV s v) l).length /\ (ZBF (putV s v) l).length <= _
  simp only [List.length_cons]
  omega
theorem all_snoc {l : List Vx} {p : Vx -> Bool} {k : Nat} (h : k < l.length) : (l.take (k + 1)).all p = ((l.take k).all p && p l[k]) := by rw [ZQ h, List.all_append]; simp only [List.all_cons, List.all_nil, Bool.and_true]
theorem cmpL_eq : ∀ {a b : List Vx}, ZAc a b = 0 ↔ a = b
 | [], [] => by simp [ZAc]
 | [], _ :: _ => by simp [ZAc]
 | _ :: _, [] => by simp [ZAc]
 | x :: a, y :: b => by
  unfold ZAc
  by_cases h : ZAX x y = 0
  ·rw [if_pos h, cmpL_eq]
   simp [ZBR.1 h]
  ·rw [if_neg h]
   have : x ≠ y := fun e => h (ZBR.2 e)
   simp [h, this]
theorem diffV_step {s : List Vx} {k : Nat} (h0 : 1 <= k) (h : k < s.length) : Zy (s.drop (k - 1)) = if (s[k - 1]'(by omega)).1 = s[k].1 then false else Zy (s.drop k) := by
 obtain ⟨j, rfl⟩ : ∃ j, k = j + 1 := ⟨k - 1, by omega⟩
 have e : j + 1 - 1 = j := by omega
 simp only [e]
 rw [ZAd (by omega : j < s.length), ZAd h]
 rfl

theorem ZBE : ∀ (k : Nat) (s : List Vx), s.length < k -> ZX k s = []
 | 0, _, h => by omega
 | _ + 1, [], _ => rfl
 | k + 1, v :: s, h => by
  simp only [List.length_cons] at h
  unfold ZX
  rw [ZBE k s (by omega), ZBE (k + 1) s (by omega)]
  rfl
theorem ZBj : ∀ (k : Nat) (s : List Vx), (ZX k s).length <= 2 ^ s.length
 | 0, s => by simp [ZX]; exact Nat.one_le_two_pow
 | _ + 1, [] => by simp [ZX]
 | k + 1, v :: s => by
  have h1 := ZBj k s
  have h2 := ZBj (k + 1) s
  unfold ZX
  rw [List.length_append, List.length_map, List.length_cons, Nat.pow_succ]
  omega
theorem subsV_drop (k : Nat) (s : List Vx) (i : Nat) (h : i < s.length) : ZX (k + 1) (s.drop i) = (ZX k (s.drop (i + 1))).map (s[i] :: ·) ++ ZX (k + 1) (s.drop (i + 1)) := by
 rw [ZAd h]; rfl
theorem asc_cons2 {u v : Vx} {s : List Vx} : Asc (u :: v :: s) ↔ ZAX u v < 0 /\ Asc (v :: s) := by
 unfold Asc
 rw [List.pairwise_cons]
 constructor
 ·rintro ⟨h1, h2⟩
  exact ⟨h1 v (by simp), h2⟩
 ·rintro ⟨h1, h2⟩
  refine ⟨fun y hy => ?_, h2⟩
  rw [List.mem_cons] at hy
  rcases hy with rfl | hy
  ·exact h1
  ·exact ZBD h1 ((List.pairwise_cons.1 h2).1 y hy)
theorem chkG_zero : ∀ (s : List Vx) (p : Option Vx), chkG p s = 0 ↔ (∀ v ∈ s, rngV v = true) /\ Asc (p.toList ++ s)
 | [], none => by simp [chkG, Asc]
 | [], some u => by simp [chkG, Asc]
 | v :: s, p => by
  unfold chkG
  by_cases h1 : rngV v = false
  ·rw [if_pos h1]
   simp [h1]
  ·rw [if_neg h1]
   have h1' : rngV v = true := by simpa using h1
   cases p with
   | none =>
    simp only [Bool.false_eq_true, if_false]
    rw [chkG_zero s (some v)]
    simp [h1']
   | some u =>
    by_cases h2 : 0 <= ZAX u v
    ·simp only [h2, decide_true, if_true]
     have : ¬ Asc (u :: v :: s) := fun h => by have := (asc_cons2.1 h).1; omega
     simp [this]
    ·simp only [h2, decide_false, Bool.false_eq_true, if_false]
     rw [chkG_zero s (some v)]
     simp [h1', asc_cons2]
     omega
theorem ZM {s : List Vx} : Zn s = 0 ↔ s.length ≠ 0 /\ s.length <= 8 /\ (∀ v ∈ s, rngV v = true) /\ Asc s := by
 unfold Zn
 by_cases h1 : s.length = 0
 ·rw [if_pos h1]; simp [h1]
 ·rw [if_neg h1]
  by_cases h2 : 8 < s.length
  ·rw [if_pos h2]
   simp
   omega
  ·rw [if_neg h2, chkG_zero]
   simp only [Option.toList_none, List.nil_append]
   constructor
   ·rintro ⟨h3, h4⟩; exact ⟨h1, by omega, h3, h4⟩
   ·rintro ⟨_, _, h3, h4⟩; exact ⟨h3, h4⟩
theorem rngV_iff {v : Vx} : rngV v = true ↔ 0 <= v.1 /\ v.1 < 8 /\ 0 <= v.2 /\ v.2 <= 1048576 := by
 unfold rngV
 simp [and_assoc]

end
section
open Go.RowKit
def ZBx (x : Vx) : List Value := [.int .i64 x.1, .int .i64 x.2]
theorem us_encV {P : Nat -> Prop} {w : World} {us : List (List Value)} {xs : List Vx} {v : Value} (hl : us.length = xs.length) (h : ∀ k (h : k < us.length) (h' : k < xs.length), RV (fun b => P b /\ v.ownBlock ≠ some b) w (.agg us[k].toArray) xs[k]) : us = xs.map ZBx := by
 apply List.ext_getElem (by simp [hl])
 intro k h1 h2
 have := h k h1 (by omega)
 have h3 : Value.agg us[k].toArray = .agg #[.int .i64 xs[k].1, .int .i64 xs[k].2] := this
 injection h3 with h3
 rw [List.getElem_map]
 exact List.toArray_inj h3
end
section
open Go.RowKit

def ZZ (xs : List Vx) : List Value := (xs.map ZBx).flatten
theorem ZBm : ZZ [] = [] := rfl
theorem ZAP (x : Vx) (l : List Vx) : ZZ (x :: l) = .int .i64 x.1 :: .int .i64 x.2 :: ZZ l := rfl
theorem Zf : ∀ (l : List Vx), (ZZ l).length = l.length * 2
 | [] => rfl
 | x :: l => by rw [ZAP]; simp only [List.length_cons, Zf l]; omega
theorem ZAi (a b : List Vx) : ZZ (a ++ b) = ZZ a ++ ZZ b := by unfold ZZ; rw [List.map_append, List.flatten_append]
theorem flatV_one (l : List Vx) : ∀ c ∈ ZZ l, c.oneCell' = true := fun c hc => by
 unfold ZZ at hc
 obtain ⟨u, hu, hc⟩ := List.mem_flatten.1 hc
 obtain ⟨x, _, rfl⟩ := List.mem_map.1 hu
 simp [ZBx] at hc
 rcases hc with rfl | rfl <;> rfl
theorem flatV_get {l : List Vx} {k : Nat} (h : k < l.length) : (ZZ l)[k * 2]? = some (.int .i64 l[k].1) /\ (ZZ l)[k * 2 + 1]? = some (.int .i64 l[k].2) := by
 have e : l = l.take k ++ l[k] :: l.drop (k + 1) := by rw [<- List.drop_eq_getElem_cons h, List.take_append_drop]
 have hl : (ZZ (l.take k)).length = k * 2 := by rw [Zf, List.length_take]; congr 1; omega
 have e2 : ZZ l = ZZ (l.take k) ++ (.int .i64 l[k].1 :: .int .i64 l[k].2 :: ZZ (l.drop (k + 1))) := by
  conv => lhs; rw [e]
  rw [ZAi, ZAP]
 rw [e2]
 constructor
 ·rw [List.getElem?_append_right (by omega)]; simp [hl]
 ·rw [List.getElem?_append_right (by omega)]; simp [hl]
def RowAt (w : World) (g cap : Nat) (e : TypeId) (xs : List Vx) : Prop :=
 ∃ tl : List Value, w.heap[g]? = some (.cells (ZZ xs ++ tl).toArray e (0, 0)) /\ xs.length <= cap /\ cap <= maxLen /\ (ZZ xs ++ tl).length = cap * 2
abbrev rowV (g cap : Nat) (xs : List Vx) : Value := .slice (some ⟨g, 0, none⟩) xs.length cap
theorem ownK_rowAt {e : TypeId} {I : Nat -> Prop} {w : World} {g cap : Nat} {xs : List Vx} : OwnK 0 e 2 RV I w (rowV g cap xs) xs ↔ RowAt w g cap e xs := by
 constructor
 ·rintro ⟨us, h1, h2, h0, h3, h4⟩
  have hus := us_encV h1 h4
  subst hus
  obtain ⟨hfl, hv⟩ := h3
  rcases hv with ⟨hz, _⟩ | ⟨g', cap', cur, hv, hB, hg, hc1, hc2, hc3, hc4⟩
  ·cases hz
  ·cases hv
   refine ⟨cur.toList.drop (xs.length * 2), ?_, hc1, hc2, ?_⟩
   ·have : ZZ xs ++ cur.toList.drop (xs.length * 2) = cur.toList := by
     unfold ZZ; rw [<- hc4, List.take_append_drop]
    rw [this]; exact hg
   ·have : ZZ xs ++ cur.toList.drop (xs.length * 2) = cur.toList := by
     unfold ZZ; rw [<- hc4, List.take_append_drop]
    rw [this]; simpa using hc3
 ·rintro ⟨tl, hg, hc1, hc2, hc3⟩
  refine ⟨xs.map ZBx, by simp, fun u hu => ?_, by decide, ⟨?_, .inr ⟨g, cap, _, rfl, Nat.zero_le _, hg, hc1, hc2, by simpa using hc3, ?_⟩⟩, fun k h h' => ?_⟩
  ·obtain ⟨y, _, rfl⟩ := List.mem_map.1 hu
   exact ⟨rfl, by simp [ZBx, Value.oneCell']⟩
  ·exact Zf xs
  ·show (ZZ xs ++ tl).take (xs.length * 2) = ZZ xs
   rw [<- Zf xs, List.take_left']
   rfl
  ·show Value.agg _ = _
   rw [List.getElem_map]
   rfl
theorem ZAO {g : Nat} {e : TypeId} {fz : Nat × Nat} : ∀ (vs M A C : List Value) (w : World), M.length = vs.length -> w.heap[g]? = some (.cells (A ++ M ++ C).toArray e fz) -> (w.setCells g A.length vs).heap[g]? = some (.cells (A ++ vs ++ C).toArray e fz)
 | [], M, A, C, w, h, hg => by
  have : M = [] := List.eq_nil_of_length_eq_zero (by simpa using h)
  subst this; exact hg
 | v :: r, [], A, C, w, h, hg => by simp at h
 | v :: r, m :: M, A, C, w, h, hg => by
  have hg' : (w.setCell ⟨g, A.length, none⟩ v).heap[g]? = some (.cells ((A ++ [v]) ++ M ++ C).toArray e fz) := by
   simp only [World.setCell, Array.getElem?_modify, if_true, hg, Option.map_some]
   simp
  have := ZAO r M (A ++ [v]) C _ (by simpa using h) hg'
  rw [World.setCells]
  have e1 : (A ++ [v]).length = A.length + 1 := by simp
  rw [e1] at this
  rw [this]; simp
theorem row_write {w : World} {g cap : Nat} {e : TypeId} {xs : List Vx} (h : RowAt w g cap e xs) (k : Nat) (ys : List Vx) (hk : k + ys.length <= xs.length) :
  RowAt (w.setCells g (k * 2) (ZZ ys)) g cap e (xs.take k ++ ys ++ xs.drop (k + ys.length)) := by
 obtain ⟨tl, hg, hc1, hc2, hc3⟩ := h
 have e1 : xs = xs.take k ++ (xs.drop k).take ys.length ++ xs.drop (k + ys.length) := by
  rw [List.append_assoc, <- List.drop_drop, List.take_append_drop, List.take_append_drop]
 have hA : (ZZ (xs.take k)).length = k * 2 := by rw [Zf, List.length_take]; congr 1; omega
 have hM : (ZZ ((xs.drop k).take ys.length)).length = (ZZ ys).length := by rw [Zf, Zf, List.length_take, List.length_drop]; congr 1; omega
 have e2 : ZZ xs ++ tl = ZZ (xs.take k) ++ ZZ ((xs.drop k).take ys.length) ++ (ZZ (xs.drop (k + ys.length)) ++ tl) := by
  conv => lhs; rw [e1]
  rw [ZAi, ZAi]; simp
 rw [e2] at hg
 have := ZAO _ _ _ _ w hM hg
 rw [hA] at this
 have hlen : (xs.take k ++ ys ++ xs.drop (k + ys.length)).length = xs.length := by simp; omega
 refine ⟨tl, ?_, by omega, hc2, ?_⟩
 ·rw [this, ZAi, ZAi]; simp
 ·rw [List.length_append, Zf] at hc3 ⊢
  rw [hlen]; exact hc3
theorem row_grown {w : World} {g o : Nat} {vs : List Value} : w.grownBy (w.setCells g o vs) (some g) := by
 refine ⟨World.os_setCells w g o vs, ?_, World.output_setCells w g o vs, ?_, fun k hk hne => World.heap_setCells_other w g o vs hk fun e => hne (by rw [e])⟩
 ·revert o w
  induction vs with
  | nil => intros; rfl
  | cons v r ih => intro w o; rw [World.setCells]; exact ih
 ·revert o w
  induction vs with
  | nil => intros; exact Nat.le_refl _
  | cons v r ih =>
   intro w o; rw [World.setCells]
   refine Nat.le_trans ?_ ih
   simp [World.setCell]
theorem row_cell {w : World} {g cap : Nat} {e : TypeId} {xs : List Vx} (h : RowAt w g cap e xs) (j : Nat) (hj : j < xs.length * 2) : w.cell? ⟨g, j, none⟩ = (ZZ xs)[j]? /\ w.frozen? ⟨g, j, none⟩ = false := by
 obtain ⟨tl, hg, _⟩ := h
 refine ⟨?_, by simp [World.frozen?, hg]⟩
 simp only [World.cell?, hg]
 simp only [Option.isSome_none, Bool.false_eq_true, if_false]
 rw [List.getElem?_toArray, List.getElem?_append_left (by rw [Zf]; exact hj)]
theorem ZCG {w : World} {g cap : Nat} {e : TypeId} {xs : List Vx} (h : RowAt w g cap e xs) (o n : Nat) (hj : o + n <= xs.length * 2) : w.there g o n := fun j hjn => by
 have := row_cell h (o + j) (by omega)
 refine ⟨?_, this.2⟩
 rw [this.1, List.getElem?_eq_getElem (by rw [Zf]; omega)]
 rfl
section
variable {P : Program} {ops : Array Oper} {hp : List HObj} {o : Oper} {fr : List Dat} {d : Dat} {Q : Z1} {rest : List Oper}
variable {dst : Option Tmp} {ty : TypeId} {ps : String} {af : Array Edge} {g : Option (Nat × Bool)} {b cap : Nat} {e t T : TypeId} {xs : List Vx} {bytes : Nat} {z : Value} {ag : Bool}
abbrev hV (b N cap : Nat) (e : TypeId) (xs : List Vx) : HObj := ZS (.slice (some ⟨b, 0, none⟩) N cap) e 2 RV xs
theorem ZBp {I : Nat -> Prop} {w : World} {N : Nat} : (hV b N cap e xs).ok I w ↔ N = xs.length /\ RowAt w b cap e xs := by
 constructor
 ·intro h
  have hN : N = xs.length := by
   obtain ⟨us, h1, h2, h0, ⟨_, h3⟩, h4⟩ := h
   rcases h3 with ⟨hz, _⟩ | ⟨g, cap, cur, hv, _⟩
   ·cases hz
   ·cases hv; rfl
  subst hN
  exact ⟨rfl, ownK_rowAt.1 h⟩
 ·rintro ⟨rfl, h⟩
  exact ownK_rowAt.2 h
theorem WC.openV {c : Code} {v : Value} (hne : 0 < xs.length) (h : ∀ b cap, v = rowV b cap xs -> xs.length <= cap -> cap <= maxLen -> WC P Q c fr (ZS v e 2 RV xs :: hp)) : WC P Q c fr (ZS v e 2 RV xs :: hp) := WC.of fun P0 B w0 w a hh hf => by
 obtain ⟨us, h1, h2, h0, ⟨_, h3⟩, h4⟩ := hh.ok (ZS v e 2 RV xs) (by simp)
 rcases h3 with ⟨_, hz⟩ | ⟨g, cap, cur, hv, hB, hg, hc1, hc2, _⟩
 ·omega
 ·exact (h g cap hv hc1 hc2).on hh hf
theorem SY.ixO {x i : Operand} {n m off k : Nat} {j : Int} (E : ElT P t e 2 z bytes ag) (hx : OpD fr x (dX (.slice (some ⟨b, off, none⟩) n m))) (hi : OpD fr i (dI j)) (hj : j = (k : Int)) (hk : k < n) :
  SY P ops hp { dst := dst, op := .indexAddr t x i, type := ty, pos := ps, after := af, guard := g } fr (dX (.pointer (some ⟨b, off + k * 2, none⟩))) := SY.val fun {I w a} ho => by
 have h1 : a.eval x = _ := hx.get (by simp [Op.operands]) ho
 have h2 : a.eval i = _ := hi.get (by simp [Op.operands]) ho
 refine ⟨_, ?_, rfl⟩
 unfold execOp
 simp only [h1, h2, hj, Sem.run_bind, ZAx (w := w) E b off n m k .i64 hk, Result.andThen_ok, Sem.run_pure]
theorem SY.loadO {x : Operand} {j k : Nat} (T' : TyI P T 2 true) (hx : OpD fr x (dX (.pointer (some ⟨b, j, none⟩)))) {N : Nat} (hm : hV b N cap e xs ∈ hp) (hj : j = k * 2) (hk : k < xs.length) :
  SY P ops hp { dst := dst, op := .load T x, type := ty, pos := ps, after := af, guard := g } fr (dS RV xs[k]) := ZAC fun {P0 B w0 w a} hh ho => by
 have h1 : a.eval x = _ := hx.get (by simp [Op.operands]) ho
 have hrow := (ZBp.1 (hh.ok _ hm)).2
 subst hj
 have hc : Cells (fun _ => True) w b (k * 2) 2 true (.agg (ZBx xs[k]).toArray) := by
  refine ⟨trivial, ZBx xs[k], rfl, by decide, by simp [ZBx, Value.oneCell'], fun i c hc => ?_, rfl⟩
  have hi : i < 2 := (List.getElem?_eq_some_iff.1 hc).1
  have hcell := (row_cell hrow (k * 2 + i) (by omega)).1
  rw [hcell]
  match i, hi, hc with
  | 0, _, hc => cases hc; exact (flatV_get hk).1
  | 1, _, hc => cases hc; exact (flatV_get hk).2
 refine ⟨_, w, ?_, Ext.refl _, rfl⟩
 unfold execOp
 simp only [h1, Sem.run_bind, ZAY T' hc, Result.andThen_ok, Sem.run_pure]
 rfl
theorem WL.writeO {o : Oper} {k N : Nat} {ys : List Vx} (hg : o.guard = none) (hk : k + ys.length <= xs.length) (hrun : ∀ {I : Nat -> Prop} {w : World} {a : Act}, Fr I w a fr -> RowAt w b cap e xs -> ∃ out : Next, (out = .skip \/ ∃ r, out = .value r) /\ (execOp a.eval o).run P w = .ok out (w.setCells b (k * 2) (ZZ ys)))
  (h : WL P ops Q rest (ZB fr o.dst dA) (hV b N cap e (xs.take k ++ ys ++ xs.drop (k + ys.length)) :: hp)) : WL P ops Q (o :: rest) fr (hV b N cap e xs :: hp) := by
 refine WL.of fun P0 B w0 w a hh hf => ?_
 obtain ⟨hN, hrow⟩ := ZBp.1 (hh.ok (hV b N cap e xs) (by simp))
 obtain ⟨out, ho, hr⟩ := hrun hf hrow
 have hgr : w.grownBy (w.setCells b (k * 2) (ZZ ys)) (hV b N cap e xs).blk := row_grown
 have hok : (hV b N cap e (xs.take k ++ ys ++ xs.drop (k + ys.length))).ok (fun j => Imm P0 B (hV b N cap e xs :: hp) j /\ j < w.heap.size) (w.setCells b (k * 2) (ZZ ys)) :=
  ZBp.2 ⟨by rw [hN]; simp; omega, row_write hrow k ys hk⟩
 refine wpList_plain hg fun K hK => ?_
 unfold Oper.wp
 rw [hr]
 have fin : ∀ r : Value, K (a.put o.dst r) (w.setCells b (k * 2) (ZZ ys)) := fun r => hK _ _ (h.on (hh.write hgr (.inl rfl) hok) (Fr.put (hf.mono fun _ _ hd => ZI (o' := hV b N cap e (xs.take k ++ ys ++ xs.drop (k + ys.length))) hgr (.inl rfl) hd) (d := dA) trivial))
 rcases ho with rfl | ⟨r, rfl⟩
 ·exact fin undef
 ·exact fin r
theorem WL.storeO {p : Tmp} {x : Operand} {j k N : Nat} {y : Vx} (T' : TyI P T 2 true) (hp0 : OpD fr (.tmp p) (dX (.pointer (some ⟨b, j, none⟩)))) (hx : OpD fr x (dS RV y)) (hj : j = k * 2) (hk : k < xs.length)
  (h : WL P ops Q rest (ZB fr dst dA) (hV b N cap e (xs.set k y) :: hp)) : WL P ops Q ({ dst := dst, op := .store T (.tmp p) x, type := ty, pos := ps, after := af, guard := none } :: rest) fr (hV b N cap e xs :: hp) := by
 refine WL.writeO (k := k) (ys := [y]) rfl (by simp; omega) (fun {I w a} hf hrow => ⟨.skip, .inl rfl, ?_⟩) ?_
 ·have h1 : a.eval (.tmp p) = _ := hp0.ev hf
  have h2 : a.eval x = .agg #[.int .i64 y.1, .int .i64 y.2] := hx.ev hf
  subst hj
  have := run_storeVar_mid (P := P) w b (k * 2) T #[.int .i64 y.1, .int .i64 y.2] (ZCG hrow _ _ (by simp; omega)) (by simpa using T'.size) (by simp [Value.oneCell'])
  unfold execOp
  simp only [h1, h2, Instr.storeAt, Instr.sureAddr, Sem.run_bind, Sem.run_pure, Result.andThen_ok, this]
  rfl
 ·have e1 : xs.take k ++ [y] ++ xs.drop (k + [y].length) = xs.set k y := by
   rw [List.set_eq_take_append_cons_drop, if_pos hk]; simp
  rw [e1]; exact h
theorem WL.clearO {x : Operand} {off n m k N : Nat} (hu : P.underlying t = some (.slice e)) (hz : ∀ w, (zeroValue e).run P w = .ok (.agg #[.int .i64 0, .int .i64 0]) w) (hx : OpD fr x (dX (.slice (some ⟨b, off, none⟩) n m))) (hj : off = k * 2) (hn : 0 < n) (hk : k + n = xs.length)
  (h : WL P ops Q rest (ZB fr dst dA) (hV b N cap e (xs.take k ++ List.replicate n (0, 0)) :: hp)) : WL P ops Q ({ dst := dst, op := .call { callee := .builtin .clear, args := #[x], argTypes := #[t] }, type := ty, pos := ps, after := af, guard := none } :: rest) fr (hV b N cap e xs :: hp) := by
 refine WL.writeO (k := k) (ys := List.replicate n (0, 0)) rfl (by simp; omega) (fun {I w a} hf hrow => ⟨.value (.tuple #[]), .inr ⟨_, rfl⟩, ?_⟩) ?_
 ·have h1 : a.eval x = _ := hx.ev hf
  subst hj
  have hzc : (Builtin.zeroCells #[Value.int .i64 0, .int .i64 0] n).toList = ZZ (List.replicate n (0, 0)) := by
   have e1 : ZZ (List.replicate n (0, 0)) = List.replicate (n * 2) (.int .i64 0) := by
    clear h hn hk hx h1
    induction n with
    | zero => rfl
    | succ n ih => rw [List.replicate_succ, ZAP, ih, Nat.succ_mul, List.replicate_succ, List.replicate_succ]
   rw [e1]
   simp only [Builtin.zeroCells]
   apply List.ext_getElem
   ·simp
   ·intro i h1 h2
    have : i % 2 < 2 := Nat.mod_lt _ (by decide)
    simp
    rcases (by omega : i % 2 = 0 \/ i % 2 = 1) with h | h <;> simp [h]
  have hst := run_storeCells_cells (P := P) b (k * 2) (ZZ (List.replicate n (0, 0))) 0 w (fun j hj => by
   rw [Zf, List.length_replicate] at hj
   exact ((ZCG hrow (k * 2) (n * 2) (by omega)) j hj).1) (fun j hj => by
   rw [Zf, List.length_replicate] at hj
   exact ((ZCG hrow (k * 2) (n * 2) (by omega)) j hj).2) (flatV_one _)
  obtain ⟨m', rfl⟩ : ∃ m, n = m + 1 := ⟨n - 1, by omega⟩
  unfold execOp
  simp [resolve, invoke, builtin, h1, Builtin.clear_, run_underlying hu, hz, Value.cells, hzc, hst]
 ·have e1 : xs.take k ++ List.replicate n (0, 0) ++ xs.drop (k + (List.replicate n ((0, 0) : Vx)).length) = xs.take k ++ List.replicate n (0, 0) := by
   rw [List.length_replicate, hk, List.drop_length, List.append_nil]
  rw [e1]; exact h
theorem SY.fromO {x y : Operand} {off n m l : Nat} {j : Int} (E : ElT P t e 2 z bytes ag) (hx : OpD fr x (dX (.slice (some ⟨b, off, none⟩) n m))) (hy : OpD fr y (dI j)) (hj : j = (l : Int)) (hl : l < n) (hm : n <= m) :
  SY P ops hp { dst := dst, op := .slice t x (some y) none none, type := ty, pos := ps, after := af, guard := g } fr (dX (.slice (some ⟨b, off + l * 2, none⟩) (n - l) (m - l))) := SY.val fun {I w a} ho => by
 have h1 : a.eval x = _ := hx.get (by simp [Op.operands]) ho
 have h2 : a.eval y = _ := hy.get (by simp [Op.operands]) ho
 refine ⟨_, ?_, rfl⟩
 have hr := run_slice (w := w) (ad := some ⟨b, off, none⟩) (len := n) (cap := m) (lo := some (.int .i64 (l : Int))) (hi := none) (l := l) (h := n) E (.inr ⟨_, rfl⟩) (.inl ⟨rfl, rfl⟩) (by omega) hm
 rw [if_neg (by omega)] at hr
 unfold execOp
 simp only [h1, h2, hj, Option.map_none, Option.map_some, Sem.run_bind, hr, Result.andThen_ok, Sem.run_pure]
 simp [Addr.add_lit]
theorem SY.uptoO {x y : Operand} {off n m l : Nat} {j : Int} (E : ElT P t e 2 z bytes ag) (hx : OpD fr x (dX (.slice (some ⟨b, off, none⟩) n m))) (hy : OpD fr y (dI j)) (hj : j = (l : Int)) (hl : l <= n) (hm : n <= m) (h0 : 0 < m) :
  SY P ops hp { dst := dst, op := .slice t x none (some y) none, type := ty, pos := ps, after := af, guard := g } fr (dX (.slice (some ⟨b, off, none⟩) l m)) := SY.val fun {I w a} ho => by
 have h1 : a.eval x = _ := hx.get (by simp [Op.operands]) ho
 have h2 : a.eval y = _ := hy.get (by simp [Op.operands]) ho
 refine ⟨_, ?_, rfl⟩
 have hr := run_slice (w := w) (ad := some ⟨b, off, none⟩) (len := n) (cap := m) (lo := none) (hi := some (.int .i64 (l : Int))) (l := 0) (h := l) E (.inl ⟨rfl, rfl⟩) (.inr ⟨_, rfl⟩) (by omega) (by omega)
 rw [if_neg (by omega)] at hr
 unfold execOp
 simp only [h1, h2, hj, Option.map_none, Option.map_some, Sem.run_bind, hr, Result.andThen_ok, Sem.run_pure]
 simp [Addr.add_lit]
theorem WC.cutO {c : Code} {N k : Nat} (hk : k <= xs.length) (h : WC P Q c fr (hV b k cap e (xs.take k) :: hp)) : WC P Q c fr (hV b N cap e xs :: hp) := WC.of fun P0 B w0 w a hh hf => by
 obtain ⟨hN, tl, hg, hc1, hc2, hc3⟩ := ZBp.1 (hh.ok (hV b N cap e xs) (by simp))
 have hgr : w.grownBy w (hV b N cap e xs).blk := ⟨rfl, rfl, rfl, Nat.le_refl _, fun _ _ _ => rfl⟩
 have e1 : ZZ xs ++ tl = ZZ (xs.take k) ++ (ZZ (xs.drop k) ++ tl) := by rw [<- List.append_assoc, <- ZAi, List.take_append_drop]
 have hok : (hV b k cap e (xs.take k)).ok (fun j => Imm P0 B (hV b N cap e xs :: hp) j /\ j < w.heap.size) w :=
  ZBp.2 ⟨by simp; omega, ZZ (xs.drop k) ++ tl, by rw [<- e1]; exact hg, by simp; omega, hc2, by rw [<- e1]; exact hc3⟩
 exact h.on (hh.write hgr (.inl rfl) hok) (hf.mono fun _ _ hd => ZI (o' := hV b k cap e (xs.take k)) hgr (.inl rfl) hd)
end
end
section
open Go.RowKit
theorem want_undef {ops : Array Oper} {o : Oper} {fr : List Dat} {gi : Nat} {pol : Bool} {t : Tmp} (hg : o.guard = some (gi, pol)) (ht : (ops[gi]?).bind (·.dst) = some t) (hf : fr[t]? = some (dX undef)) : WantS ops o fr false := WantS.mk fun I w a ho => by
 have h1 : a.tmps.getD t undef = undef := ho.2 t (guard_mem hg ht) _ hf
 have hlt : t < a.tmps.size := by rw [ho.1]; exact (List.getElem?_eq_some_iff.1 hf).1
 have h2 : a.tmps[t]? = some undef := by
  rw [Array.getD_eq_getD_getElem?] at h1
  rw [Array.getElem?_eq_getElem hlt] at h1 ⊢
  simpa using h1
 simp [Region.wanted, hg, yielded, ht, h2, undef]
end
end Go.Proofs.YtmcllakdbgnfiaaGreatDoor
namespace Go.Proofs.YtmcllakdbgnfiaaGreatDoor.I
section
open Go.RowKit
theorem oper_wide {P : Program} {o : Oper} {a : Act} {w : World} {K : Act -> World -> Prop} {Q : Exit -> Act -> World -> Prop} (h : o.wp P a w K Q) : o.wpIn Fence.wide 0 P a w K Q := by
 refine ⟨fun _ _ => trivial, ?_⟩
 show o.uponIn Fence.wide 0 P a K Q ((execOp a.eval o).run P w)
 unfold Oper.wp at h
 revert h
 generalize (execOp a.eval o).run P w = r
 intro h
 unfold Oper.upon at h
 unfold Oper.uponIn
 split at h
 ·exact h
 ·exact h
 ·exact h
 ·exact ⟨fun h => by simp [Fence.wide] at h, callsIn_wide.2 h⟩
 ·exact ⟨fun h => by simp [Fence.wide] at h, fun c cs _ => let ⟨v, w2, r, s⟩ := h c cs; ⟨v, w2, r, stepsIn_wide.2 s⟩⟩
 ·exact h
 ·exact h.elim
theorem ZAB {P : Program} {ops : Array Oper} {Q : Exit -> Act -> World -> Prop} {rest : List Oper} {o : Oper} {a : Act} {w : World} (hg : o.guard = none)
  (h : ∀ K : Act -> World -> Prop, (∀ a w, wpListIn Fence.wide 0 P ops Q rest a w -> K a w) -> o.wp P a w K Q) : wpListIn Fence.wide 0 P ops Q (o :: rest) a w :=
 wpListIn_plain hg fun K hK => oper_wide (h K hK)
end
end Go.Proofs.YtmcllakdbgnfiaaGreatDoor.I
