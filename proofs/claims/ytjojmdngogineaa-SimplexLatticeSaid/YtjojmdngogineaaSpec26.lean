/-
  What the functions of layer 26 compute, in plain Lean: vertices (two ints), their order, simplices.
-/
import Derived.Test.YtjojmdngogineaaBase
namespace Go.Proofs.Ytjojmdngogineaa

abbrev Vx := Int × Int
/-- the order of two vertices -/
def cmpV (a b : Vx) : Int := if a.1 < b.1 then -1 else if b.1 < a.1 then 1 else if a.2 < b.2 then -1 else if b.2 < a.2 then 1 else 0
/-- in the ranges -/
def rngV (v : Vx) : Bool := decide (0 ≤ v.1) && decide (v.1 < 8) && decide (0 ≤ v.2) && decide (v.2 ≤ 1048576)
/-- the order of two lists -/
def cmpL : List Vx → List Vx → Int
  | [], [] => 0
  | [], _ :: _ => -1
  | _ :: _, [] => 1
  | x :: a, y :: b => if cmpV x y = 0 then cmpL a b else cmpV x y
/-- the check of a list behind a vertex -/
def chkG : Option Vx → List Vx → Int
  | _, [] => 0
  | p, v :: s => if rngV v = false then 2 else if (match p with | some u => decide (0 ≤ cmpV u v) | none => false) = true then 14 else chkG (some v) s
/-- the error of a simplex -/
def chkV (s : List Vx) : Int := if s.length = 0 then 16 else if 8 < s.length then 5 else chkG none s
/-- one more vertex -/
def insV : List Vx → Vx → List Vx
  | [], v => [v]
  | u :: s, v => if cmpV v u < 0 then v :: u :: s else u :: insV s v
def putV (s : List Vx) (v : Vx) : List Vx := if v ∈ s then s else insV s v

theorem cmpV_cases (a b : Vx) : (cmpV a b = -1 ∧ cmpV b a = 1) ∨ (cmpV a b = 1 ∧ cmpV b a = -1) ∨ (cmpV a b = 0 ∧ cmpV b a = 0 ∧ a = b) := by
  obtain ⟨x, y⟩ := a
  obtain ⟨u, v⟩ := b
  simp only [cmpV, Prod.mk.injEq]
  repeat' split
  all_goals omega
theorem cmpV_eq {a b : Vx} : cmpV a b = 0 ↔ a = b := by
  constructor
  · intro h
    rcases cmpV_cases a b with h' | h' | h'
    · omega
    · omega
    · exact h'.2.2
  · rintro rfl
    rcases cmpV_cases a a with h' | h' | h' <;> omega
theorem cmpV_neg (a b : Vx) : cmpV b a = - cmpV a b := by
  rcases cmpV_cases a b with h' | h' | h' <;> omega
theorem cmpV_trans {a b c : Vx} (h : cmpV a b < 0) (h' : cmpV b c < 0) : cmpV a c < 0 := by
  obtain ⟨x, y⟩ := a
  obtain ⟨u, v⟩ := b
  obtain ⟨p, q⟩ := c
  revert h h'
  simp only [cmpV]
  repeat' split
  all_goals omega

/-- strictly ascending -/
def Asc (s : List Vx) : Prop := s.Pairwise fun a b => cmpV a b < 0

theorem asc_ext : ∀ {a b : List Vx}, Asc a → Asc b → (∀ x, x ∈ a ↔ x ∈ b) → a = b
  | [], [], _, _, _ => rfl
  | [], y :: b, _, _, h => absurd ((h y).2 (by simp)) (by simp)
  | x :: a, [], _, _, h => absurd ((h x).1 (by simp)) (by simp)
  | x :: a, y :: b, ha, hb, h => by
    unfold Asc at ha hb
    rw [List.pairwise_cons] at ha hb
    have hxy : x = y := by
      have h1 := (h x).1 (by simp)
      have h2 := (h y).2 (by simp)
      rw [List.mem_cons] at h1 h2
      rcases h1 with h1 | h1
      · exact h1
      rcases h2 with h2 | h2
      · exact h2.symm
      have h3 := hb.1 x h1
      have h4 := ha.1 y h2
      have := cmpV_neg x y
      omega
    subst hxy
    congr 1
    refine asc_ext ha.2 hb.2 fun z => ?_
    have hz := h z
    rw [List.mem_cons, List.mem_cons] at hz
    have hne : ∀ {l : List Vx}, (∀ a ∈ l, cmpV x a < 0) → z ∈ l → z ≠ x := by
      intro l hl hm he
      subst he
      have := hl z hm
      rw [cmpV_eq.2 rfl] at this
      omega
    constructor
    · intro hm
      rcases hz.1 (.inr hm) with h1 | h1
      · exact absurd h1 (hne ha.1 hm)
      · exact h1
    · intro hm
      rcases hz.2 (.inr hm) with h1 | h1
      · exact absurd h1 (hne hb.1 hm)
      · exact h1

theorem mem_insV : ∀ {s : List Vx} {v x : Vx}, x ∈ insV s v ↔ x = v ∨ x ∈ s
  | [], v, x => by simp [insV]
  | u :: s, v, x => by
    unfold insV
    split
    · simp
    · rw [List.mem_cons, mem_insV, List.mem_cons]
      constructor
      · rintro (h | h | h) <;> simp [h]
      · rintro (h | h | h) <;> simp [h]
theorem mem_putV {s : List Vx} {v x : Vx} : x ∈ putV s v ↔ x = v ∨ x ∈ s := by
  unfold putV
  split
  · rename_i h
    constructor
    · exact fun hx => .inr hx
    · rintro (rfl | hx)
      · exact h
      · exact hx
  · exact mem_insV
theorem asc_insV : ∀ {s : List Vx} {v : Vx}, Asc s → v ∉ s → Asc (insV s v)
  | [], v, _, _ => by simp [insV, Asc]
  | u :: s, v, hs, hv => by
    unfold Asc at hs
    have hs' := hs
    rw [List.pairwise_cons] at hs
    unfold insV
    split
    · rename_i hlt
      unfold Asc
      rw [List.pairwise_cons]
      refine ⟨fun y hy => ?_, hs'⟩
      rw [List.mem_cons] at hy
      rcases hy with rfl | hy
      · exact hlt
      · exact cmpV_trans hlt (hs.1 y hy)
    · rename_i hge
      unfold Asc
      rw [List.pairwise_cons]
      refine ⟨fun y hy => ?_, asc_insV hs.2 fun h => hv (List.mem_cons_of_mem _ h)⟩
      rw [mem_insV] at hy
      rcases hy with rfl | hy
      · have hne : y ≠ u := fun h => hv (by rw [h]; simp)
        rcases cmpV_cases u y with h | h | h
        · omega
        · omega
        · exact absurd h.2.2.symm hne
      · exact hs.1 y hy
theorem asc_putV {s : List Vx} {v : Vx} (hs : Asc s) : Asc (putV s v) := by
  unfold putV
  split
  · exact hs
  · exact asc_insV hs (by assumption)

/-- all vertices of a list, ascending -/
def allV (s : List Vx) (l : List Vx) : List Vx := l.foldl putV s
theorem asc_allV : ∀ {l s : List Vx}, Asc s → Asc (allV s l)
  | [], _, h => h
  | _ :: l, _, h => asc_allV (l := l) (asc_putV h)
theorem mem_allV : ∀ {l s : List Vx} {x : Vx}, x ∈ allV s l ↔ x ∈ s ∨ x ∈ l
  | [], s, x => by simp [allV]
  | v :: l, s, x => by
    show x ∈ allV (putV s v) l ↔ _
    rw [mem_allV, mem_putV, List.mem_cons]
    constructor
    · rintro ((h | h) | h) <;> simp [h]
    · rintro (h | h | h) <;> simp [h]

/-- the error of two simplices -/
def twoV (a b : List Vx) : Int := if chkV a ≠ 0 then chkV a else chkV b
/-- the simplex of a list, or its error -/
def ofV (l : List Vx) : List Vx × Int := if l.length = 0 then ([], 16) else if l.all rngV = false then ([], 2) else if 8 < (allV [] l).length then ([], 5) else (allV [] l, 0)
def insideV (a b : List Vx) : Bool := a.all fun x => decide (x ∈ b)
def faceV (a b : List Vx) : Bool × Int := if twoV a b ≠ 0 then (false, twoV a b) else (insideV a b, 0)
/-- the parts with k elements, in lexicographic order -/
def subsV : Nat → List Vx → List (List Vx)
  | 0, _ => [[]]
  | _ + 1, [] => []
  | k + 1, v :: s => (subsV k s).map (v :: ·) ++ subsV (k + 1) s
def facesV (s : List Vx) (k : Int) : List (List Vx) × Int := if chkV s ≠ 0 then ([], chkV s) else if k < 1 ∨ (s.length : Int) < k then ([], 2) else (subsV k.toNat s, 0)
def unionV (a b : List Vx) : List Vx × Int := if twoV a b ≠ 0 then ([], twoV a b) else if 8 < (allV a b).length then ([], 5) else (allV a b, 0)
def sharedV (a b : List Vx) (p : Bool) : List Vx := a.filter fun x => decide (x ∈ b) == p
def meetV (a b : List Vx) : List Vx × Int := if twoV a b ≠ 0 then ([], twoV a b) else (sharedV a b true, 0)
def withoutV (a b : List Vx) : List Vx × Int := if twoV a b ≠ 0 then ([], twoV a b) else (sharedV a b false, 0)
def joinV (a b : List Vx) : List Vx × Int := if twoV a b ≠ 0 then ([], twoV a b) else if 0 < (sharedV a b true).length then ([], 7) else unionV a b
/-- neighbours have different colors -/
def diffV : List Vx → Bool
  | [] => true
  | [_] => true
  | u :: v :: s => if u.1 = v.1 then false else diffV (v :: s)
def chromV (s : List Vx) : Bool × Int := if chkV s ≠ 0 then (false, chkV s) else (diffV s, 0)

theorem chkG_range : ∀ (s : List Vx) (p : Option Vx), chkG p s = 0 ∨ chkG p s = 2 ∨ chkG p s = 14
  | [], _ => .inl rfl
  | v :: s, p => by
    unfold chkG
    by_cases h1 : rngV v = false
    · rw [if_pos h1]; exact .inr (.inl rfl)
    · rw [if_neg h1]
      have := chkG_range s (some v)
      generalize (match p with | some u => decide (0 ≤ cmpV u v) | none => false) = q
      cases q with
      | true => exact .inr (.inr rfl)
      | false => simpa using this
theorem chkV_range (s : List Vx) : 0 ≤ chkV s ∧ chkV s ≤ 16 := by
  unfold chkV
  split
  · omega
  · split
    · omega
    · have := chkG_range s none
      omega
theorem twoV_range (a b : List Vx) : 0 ≤ twoV a b ∧ twoV a b ≤ 16 := by
  have := chkV_range a
  have := chkV_range b
  unfold twoV
  split <;> omega

theorem drop_cons' {α : Type} {l : List α} {k : Nat} (h : k < l.length) : l.drop k = l[k] :: l.drop (k + 1) := List.drop_eq_getElem_cons h
theorem take_snoc' {α : Type} {l : List α} {k : Nat} (h : k < l.length) : l.take (k + 1) = l.take k ++ [l[k]] := List.take_succ_eq_append_getElem h
theorem cmpL_drop (a b : List Vx) (k : Nat) : cmpL (a.drop k) (b.drop k) = if h : k < a.length then (if h' : k < b.length then (if cmpV a[k] b[k] = 0 then cmpL (a.drop (k + 1)) (b.drop (k + 1)) else cmpV a[k] b[k]) else 1) else if k < b.length then -1 else 0 := by
  by_cases h : k < a.length
  · by_cases h' : k < b.length
    · rw [dif_pos h, dif_pos h', drop_cons' h, drop_cons' h']; rfl
    · rw [dif_pos h, dif_neg h', drop_cons' h, List.drop_of_length_le (l := b) (by omega)]; rfl
  · by_cases h' : k < b.length
    · rw [dif_neg h, if_pos h', drop_cons' h', List.drop_of_length_le (l := a) (by omega)]; rfl
    · rw [dif_neg h, if_neg h', List.drop_of_length_le (l := b) (by omega), List.drop_of_length_le (l := a) (by omega)]; rfl
/-- one step of the check -/
theorem chkG_drop (s : List Vx) (k : Nat) (h : k < s.length) : chkG (s.take k).getLast? (s.drop k) = if rngV s[k] = false then 2 else if (match (s.take k).getLast? with | some u => decide (0 ≤ cmpV u s[k]) | none => false) = true then 14 else chkG (s.take (k + 1)).getLast? (s.drop (k + 1)) := by
  have e : (s.take (k + 1)).getLast? = some s[k] := by rw [take_snoc' h, List.getLast?_append]; rfl
  rw [drop_cons' h, e]
  rfl
theorem last_take (s : List Vx) (k : Nat) (h : k < s.length) (h0 : 0 < k) : (s.take k).getLast? = some s[k - 1] := by
  obtain ⟨j, rfl⟩ : ∃ j, k = j + 1 := ⟨k - 1, by omega⟩
  rw [take_snoc' (by omega), List.getLast?_append]; rfl

theorem cmpL_step {a b : List Vx} {k : Nat} (h : k < a.length) (h' : k < b.length) (hc : cmpV a[k] b[k] = 0) : cmpL (a.drop k) (b.drop k) = cmpL (a.drop (k + 1)) (b.drop (k + 1)) := by rw [cmpL_drop, dif_pos h, dif_pos h', if_pos hc]
theorem mem_take_snoc {α : Type} {l : List α} {k : Nat} (h : k < l.length) {x : α} : x ∈ l.take (k + 1) ↔ x ∈ l.take k ∨ x = l[k] := by rw [take_snoc' h, List.mem_append, List.mem_singleton]
theorem allV_snoc (s l : List Vx) (k : Nat) (h : k < l.length) : allV s (l.take (k + 1)) = putV (allV s (l.take k)) l[k] := by rw [take_snoc' h]; unfold allV; rw [List.foldl_append]; rfl
theorem insV_len : ∀ (s : List Vx) (v : Vx), (insV s v).length = s.length + 1
  | [], _ => rfl
  | u :: s, v => by
    unfold insV
    split
    · simp
    · simp [insV_len s v]
theorem putV_len (s : List Vx) (v : Vx) : s.length ≤ (putV s v).length ∧ (putV s v).length ≤ s.length + 1 := by
  unfold putV
  split
  · omega
  · rw [insV_len]; omega
theorem allV_len : ∀ (l s : List Vx), s.length ≤ (allV s l).length ∧ (allV s l).length ≤ s.length + l.length
  | [], s => by simp [allV]
  | v :: l, s => by
    have h1 := putV_len s v
    have h2 := allV_len l (putV s v)
    show _ ≤ (allV (putV s v) l).length ∧ (allV (putV s v) l).length ≤ _
    simp only [List.length_cons]
    omega
theorem allV_take_le (s l : List Vx) (k : Nat) : (allV s (l.take k)).length ≤ (allV s l).length := by
  have e : allV s l = allV (allV s (l.take k)) (l.drop k) := by
    unfold allV
    rw [← List.foldl_append, List.take_append_drop]
  rw [e]
  exact (allV_len _ _).1
theorem all_snoc {l : List Vx} {p : Vx → Bool} {k : Nat} (h : k < l.length) : (l.take (k + 1)).all p = ((l.take k).all p && p l[k]) := by rw [take_snoc' h, List.all_append]; simp only [List.all_cons, List.all_nil, Bool.and_true]
theorem filter_snoc {α : Type} {l : List α} {p : α → Bool} {k : Nat} (h : k < l.length) : (l.take (k + 1)).filter p = (l.take k).filter p ++ (if p l[k] then [l[k]] else []) := by rw [take_snoc' h, List.filter_append]; congr 1; by_cases hp : p l[k] = true <;> simp [hp]
/-- insertion, from the front: what lies before is smaller -/
theorem insV_go : ∀ (s : List Vx) (v : Vx) (k : Nat), k ≤ s.length → (∀ x ∈ s.take k, ¬ cmpV v x < 0) → insV s v = s.take k ++ insV (s.drop k) v
  | _, _, 0, _, _ => rfl
  | [], _, k + 1, h, _ => by simp at h
  | u :: s, v, k + 1, h, hx => by
    have h1 := hx u (by simp)
    have h2 : insV (u :: s) v = u :: insV s v := by rw [insV, if_neg h1]
    rw [h2, insV_go s v k (by simpa using h) (fun x hm => hx x (by simp [hm]))]
    simp

theorem sharedV_snoc {a b : List Vx} {p : Bool} {k : Nat} (h : k < a.length) : sharedV (a.take (k + 1)) b p = sharedV (a.take k) b p ++ (if (decide (a[k] ∈ b) == p) = true then [a[k]] else []) := filter_snoc h
theorem allV_mono_len {l : List Vx} {k : Nat} (h : 8 < (allV [] (l.take k)).length) : 8 < (allV [] l).length := Nat.lt_of_lt_of_le h (allV_take_le [] l k)

theorem cmpL_eq : ∀ {a b : List Vx}, cmpL a b = 0 ↔ a = b
  | [], [] => by simp [cmpL]
  | [], _ :: _ => by simp [cmpL]
  | _ :: _, [] => by simp [cmpL]
  | x :: a, y :: b => by
    unfold cmpL
    by_cases h : cmpV x y = 0
    · rw [if_pos h, cmpL_eq]
      simp [cmpV_eq.1 h]
    · rw [if_neg h]
      have : x ≠ y := fun e => h (cmpV_eq.2 e)
      simp [h, this]
theorem diffV_step {s : List Vx} {k : Nat} (h0 : 1 ≤ k) (h : k < s.length) : diffV (s.drop (k - 1)) = if (s[k - 1]'(by omega)).1 = s[k].1 then false else diffV (s.drop k) := by
  obtain ⟨j, rfl⟩ : ∃ j, k = j + 1 := ⟨k - 1, by omega⟩
  have e : j + 1 - 1 = j := by omega
  simp only [e]
  rw [drop_cons' (by omega : j < s.length), drop_cons' h]
  rfl

theorem subsV_short : ∀ (k : Nat) (s : List Vx), s.length < k → subsV k s = []
  | 0, _, h => by omega
  | _ + 1, [], _ => rfl
  | k + 1, v :: s, h => by
    simp only [List.length_cons] at h
    unfold subsV
    rw [subsV_short k s (by omega), subsV_short (k + 1) s (by omega)]
    rfl
theorem subsV_el : ∀ (k : Nat) (s x : List Vx), x ∈ subsV k s → x.length = k
  | 0, _, x, h => by simp [subsV] at h; simp [h]
  | _ + 1, [], x, h => by simp [subsV] at h
  | k + 1, v :: s, x, h => by
    unfold subsV at h
    rw [List.mem_append, List.mem_map] at h
    rcases h with ⟨y, hy, rfl⟩ | h
    · simp [subsV_el k s y hy]
    · exact subsV_el (k + 1) s x h
theorem subsV_len : ∀ (k : Nat) (s : List Vx), (subsV k s).length ≤ 2 ^ s.length
  | 0, s => by simp [subsV]; exact Nat.one_le_two_pow
  | _ + 1, [] => by simp [subsV]
  | k + 1, v :: s => by
    have h1 := subsV_len k s
    have h2 := subsV_len (k + 1) s
    unfold subsV
    rw [List.length_append, List.length_map, List.length_cons, Nat.pow_succ]
    omega
theorem subsV_drop (k : Nat) (s : List Vx) (i : Nat) (h : i < s.length) : subsV (k + 1) (s.drop i) = (subsV k (s.drop (i + 1))).map (s[i] :: ·) ++ subsV (k + 1) (s.drop (i + 1)) := by
  rw [drop_cons' h]; rfl
/-- a simplex: what its check says -/
theorem asc_cons2 {u v : Vx} {s : List Vx} : Asc (u :: v :: s) ↔ cmpV u v < 0 ∧ Asc (v :: s) := by
  unfold Asc
  rw [List.pairwise_cons]
  constructor
  · rintro ⟨h1, h2⟩
    exact ⟨h1 v (by simp), h2⟩
  · rintro ⟨h1, h2⟩
    refine ⟨fun y hy => ?_, h2⟩
    rw [List.mem_cons] at hy
    rcases hy with rfl | hy
    · exact h1
    · exact cmpV_trans h1 ((List.pairwise_cons.1 h2).1 y hy)
theorem chkG_zero : ∀ (s : List Vx) (p : Option Vx), chkG p s = 0 ↔ (∀ v ∈ s, rngV v = true) ∧ Asc (p.toList ++ s)
  | [], none => by simp [chkG, Asc]
  | [], some u => by simp [chkG, Asc]
  | v :: s, p => by
    unfold chkG
    by_cases h1 : rngV v = false
    · rw [if_pos h1]
      simp [h1]
    · rw [if_neg h1]
      have h1' : rngV v = true := by simpa using h1
      cases p with
      | none =>
        simp only [Bool.false_eq_true, if_false]
        rw [chkG_zero s (some v)]
        simp [h1']
      | some u =>
        by_cases h2 : 0 ≤ cmpV u v
        · simp only [h2, decide_true, if_true]
          have : ¬ Asc (u :: v :: s) := fun h => by have := (asc_cons2.1 h).1; omega
          simp [this]
        · simp only [h2, decide_false, Bool.false_eq_true, if_false]
          rw [chkG_zero s (some v)]
          simp [h1', asc_cons2]
          omega
theorem chkV_zero {s : List Vx} : chkV s = 0 ↔ s.length ≠ 0 ∧ s.length ≤ 8 ∧ (∀ v ∈ s, rngV v = true) ∧ Asc s := by
  unfold chkV
  by_cases h1 : s.length = 0
  · rw [if_pos h1]; simp [h1]
  · rw [if_neg h1]
    by_cases h2 : 8 < s.length
    · rw [if_pos h2]
      simp
      omega
    · rw [if_neg h2, chkG_zero]
      simp only [Option.toList_none, List.nil_append]
      constructor
      · rintro ⟨h3, h4⟩; exact ⟨h1, by omega, h3, h4⟩
      · rintro ⟨_, _, h3, h4⟩; exact ⟨h3, h4⟩
theorem rngV_iff {v : Vx} : rngV v = true ↔ 0 ≤ v.1 ∧ v.1 < 8 ∧ 0 ≤ v.2 ∧ v.2 ≤ 1048576 := by
  unfold rngV
  simp [and_assoc]

end Go.Proofs.Ytjojmdngogineaa
