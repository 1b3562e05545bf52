/-
  Part 8 of the texts that the claims of this seat lean on: walks of the program's functions by contracts over symbolic frames, and plain laws of what they compute. No condition.
-/
import Derived.Test.YtkedmlandjlogaaGreatProg
import Derived.Test.YtkedmlandjlogaaGreatVd1
import Derived.Test.YtkedmlandjlogaaGreatVd6
set_option linter.unusedVariables false
set_option linter.unusedSimpArgs false
set_option linter.unusedSectionVars false
namespace Go.Proofs.YtkedmlandjlogaaGreat
open Go.RowKit

theorem elV : ElT Tryz.prog 32 37 2 (.agg #[.int .i64 0, .int .i64 0]) 16 true := ⟨Tryz.underlying32, by kernel_rfl, Tryz.isAgg37, rfl⟩
theorem elSi : ElT Tryz.prog 22 32 1 (.slice none 0 0) 24 false := ⟨Tryz.underlying22, by kernel_rfl, Tryz.isAgg32, rfl⟩
theorem elI : ElT Tryz.prog 58 3 1 (.int .i64 0) 8 false := ⟨Tryz.underlying58, by kernel_rfl, Tryz.isAgg3, rfl⟩
theorem elE : ElT Tryz.prog 224 27 1 (.int .i64 0) 8 false := ⟨Tryz.underlying224, by kernel_rfl, Tryz.isAgg27, rfl⟩
theorem tyV : TyI Tryz.prog 37 2 true := ⟨by kernel_rfl, Tryz.isAgg37⟩
theorem tySi : TyI Tryz.prog 32 1 false := ⟨by kernel_rfl, Tryz.isAgg32⟩
theorem tyI : TyI Tryz.prog 3 1 false := ⟨by kernel_rfl, Tryz.isAgg3⟩
theorem tyE : TyI Tryz.prog 27 1 false := ⟨by kernel_rfl, Tryz.isAgg27⟩
theorem tzV : TyZ Tryz.prog 37 (.agg #[.int .i64 0, .int .i64 0]) := ⟨by kernel_rfl⟩
theorem vxT : VxT Tryz.prog 37 := by
  constructor
  · intro b off w; go_simp
  · intro b off w; go_simp
  · intro x y p q p' q' w; go_simp; by_cases h : p = p' <;> by_cases h' : q = q' <;> simp [h, h']
  · intro x y p q p' q' w; go_simp; by_cases h : p = p' <;> by_cases h' : q = q' <;> simp [h, h']
  · intro p q w; go_simp
  · intro p w; go_simp
  · intro q w; go_simp
theorem cvIE : ∀ n w, (convert 3 27 (.int .i64 n)).run Tryz.prog w = .ok (.int .i64 (IntKind.i64.wrap n)) w := by
  intro n w; go_simp
theorem cvEI : ∀ n w, (convert 27 3 (.int .i64 n)).run Tryz.prog w = .ok (.int .i64 (IntKind.i64.wrap n)) w := by
  intro n w; go_simp
theorem eqBB : ∀ (x y : Operand) (p q : Bool) w, (do eqGuard .eql 4 x y (.bool p) (.bool q); Go.binOp .eql 4 (.bool p) (.bool q)).run Tryz.prog w = .ok (.bool (p == q)) w := by
  intro x y p q w; cases p <;> cases q <;> go_simp
theorem nqBB : ∀ (x y : Operand) (p q : Bool) w, (do eqGuard .neq 4 x y (.bool p) (.bool q); Go.binOp .neq 4 (.bool p) (.bool q)).run Tryz.prog w = .ok (.bool (p != q)) w := by
  intro x y p q w; cases p <;> cases q <;> go_simp
theorem eqNilV : ∀ (x y : Operand) ad m c w, (do eqGuard .eql 32 x y (.slice ad m c) (.slice none 0 0); Go.binOp .eql 32 (.slice ad m c) (.slice none 0 0)).run Tryz.prog w = .ok (.bool ad.isNone) w := by
  intro x y ad m c w
  cases ad <;> (go_simp; try (unfold Go.binOp; simp only; unfold Op.equal Op.maxDepth Op.equalIn; simp [run_underlying Tryz.underlying32]))

end Go.Proofs.YtkedmlandjlogaaGreat
namespace Go.Proofs.YtkedmlandjlogaaGreat

abbrev Vx := Int × Int
def cmpV (a b : Vx) : Int := if a.1 < b.1 then -1 else if b.1 < a.1 then 1 else if a.2 < b.2 then -1 else if b.2 < a.2 then 1 else 0
def rngV (v : Vx) : Bool := decide (0 ≤ v.1) && decide (v.1 < 8) && decide (0 ≤ v.2) && decide (v.2 ≤ 1048576)
def cmpL : List Vx → List Vx → Int
  | [], [] => 0
  | [], _ :: _ => -1
  | _ :: _, [] => 1
  | x :: a, y :: b => if cmpV x y = 0 then cmpL a b else cmpV x y
def chkG : Option Vx → List Vx → Int
  | _, [] => 0
  | p, v :: s => if rngV v = false then 2 else if (match p with | some u => decide (0 ≤ cmpV u v) | none => false) = true then 14 else chkG (some v) s
def chkV (s : List Vx) : Int := if s.length = 0 then 16 else if 8 < s.length then 5 else chkG none s
def insV : List Vx → Vx → List Vx
  | [], v => [v]
  | u :: s, v => if cmpV v u < 0 then v :: u :: s else u :: insV s v
def putV (s : List Vx) (v : Vx) : List Vx := if v ∈ s then s else insV s v

theorem cmpV_cases (a b : Vx) : (cmpV a b = -1 ∧ cmpV b a = 1) ∨ (cmpV a b = 1 ∧ cmpV b a = -1) ∨ (cmpV a b = 0 ∧ cmpV b a = 0 ∧ a = b) := by
  obtain ⟨x, y⟩ := a
  obtain ⟨u, v⟩ := b
  simp only [cmpV, Prod.mk.injEq]
  repeat' split
  all_goals omega
theorem cmpV_eq {a b : Vx} : cmpV a b = 0 ↔ a = b := by
  constructor
  · intro h
    rcases cmpV_cases a b with h' | h' | h'
    · omega
    · omega
    · exact h'.2.2
  · rintro rfl
    rcases cmpV_cases a a with h' | h' | h' <;> omega
theorem cmpV_neg (a b : Vx) : cmpV b a = - cmpV a b := by
  rcases cmpV_cases a b with h' | h' | h' <;> omega
theorem cmpV_trans {a b c : Vx} (h : cmpV a b < 0) (h' : cmpV b c < 0) : cmpV a c < 0 := by
  obtain ⟨x, y⟩ := a
  obtain ⟨u, v⟩ := b
  obtain ⟨p, q⟩ := c
  revert h h'
  simp only [cmpV]
  repeat' split
  all_goals omega

def Asc (s : List Vx) : Prop := s.Pairwise fun a b => cmpV a b < 0

theorem asc_ext : ∀ {a b : List Vx}, Asc a → Asc b → (∀ x, x ∈ a ↔ x ∈ b) → a = b
  | [], [], _, _, _ => rfl
  | [], y :: b, _, _, h => absurd ((h y).2 (by simp)) (by simp)
  | x :: a, [], _, _, h => absurd ((h x).1 (by simp)) (by simp)
  | x :: a, y :: b, ha, hb, h => by
    unfold Asc at ha hb
    rw [List.pairwise_cons] at ha hb
    have hxy : x = y := by
      have h1 := (h x).1 (by simp)
      have h2 := (h y).2 (by simp)
      rw [List.mem_cons] at h1 h2
      rcases h1 with h1 | h1
      · exact h1
      rcases h2 with h2 | h2
      · exact h2.symm
      have h3 := hb.1 x h1
      have h4 := ha.1 y h2
      have := cmpV_neg x y
      omega
    subst hxy
    congr 1
    refine asc_ext ha.2 hb.2 fun z => ?_
    have hz := h z
    rw [List.mem_cons, List.mem_cons] at hz
    have hne : ∀ {l : List Vx}, (∀ a ∈ l, cmpV x a < 0) → z ∈ l → z ≠ x := by
      intro l hl hm he
      subst he
      have := hl z hm
      rw [cmpV_eq.2 rfl] at this
      omega
    constructor
    · intro hm
      rcases hz.1 (.inr hm) with h1 | h1
      · exact absurd h1 (hne ha.1 hm)
      · exact h1
    · intro hm
      rcases hz.2 (.inr hm) with h1 | h1
      · exact absurd h1 (hne hb.1 hm)
      · exact h1

theorem mem_insV : ∀ {s : List Vx} {v x : Vx}, x ∈ insV s v ↔ x = v ∨ x ∈ s
  | [], v, x => by simp [insV]
  | u :: s, v, x => by
    unfold insV
    split
    · simp
    · rw [List.mem_cons, mem_insV, List.mem_cons]
      constructor
      · rintro (h | h | h) <;> simp [h]
      · rintro (h | h | h) <;> simp [h]
theorem mem_putV {s : List Vx} {v x : Vx} : x ∈ putV s v ↔ x = v ∨ x ∈ s := by
  unfold putV
  split
  · rename_i h
    constructor
    · exact fun hx => .inr hx
    · rintro (rfl | hx)
      · exact h
      · exact hx
  · exact mem_insV
theorem asc_insV : ∀ {s : List Vx} {v : Vx}, Asc s → v ∉ s → Asc (insV s v)
  | [], v, _, _ => by simp [insV, Asc]
  | u :: s, v, hs, hv => by
    unfold Asc at hs
    have hs' := hs
    rw [List.pairwise_cons] at hs
    unfold insV
    split
    · rename_i hlt
      unfold Asc
      rw [List.pairwise_cons]
      refine ⟨fun y hy => ?_, hs'⟩
      rw [List.mem_cons] at hy
      rcases hy with rfl | hy
      · exact hlt
      · exact cmpV_trans hlt (hs.1 y hy)
    · rename_i hge
      unfold Asc
      rw [List.pairwise_cons]
      refine ⟨fun y hy => ?_, asc_insV hs.2 fun h => hv (List.mem_cons_of_mem _ h)⟩
      rw [mem_insV] at hy
      rcases hy with rfl | hy
      · have hne : y ≠ u := fun h => hv (by rw [h]; simp)
        rcases cmpV_cases u y with h | h | h
        · omega
        · omega
        · exact absurd h.2.2.symm hne
      · exact hs.1 y hy
theorem asc_putV {s : List Vx} {v : Vx} (hs : Asc s) : Asc (putV s v) := by
  unfold putV
  split
  · exact hs
  · exact asc_insV hs (by assumption)

def allV (s : List Vx) (l : List Vx) : List Vx := l.foldl putV s
theorem asc_allV : ∀ {l s : List Vx}, Asc s → Asc (allV s l)
  | [], _, h => h
  | _ :: l, _, h => asc_allV (l := l) (asc_putV h)
theorem mem_allV : ∀ {l s : List Vx} {x : Vx}, x ∈ allV s l ↔ x ∈ s ∨ x ∈ l
  | [], s, x => by simp [allV]
  | v :: l, s, x => by
    show x ∈ allV (putV s v) l ↔ _
    rw [mem_allV, mem_putV, List.mem_cons]
    constructor
    · rintro ((h | h) | h) <;> simp [h]
    · rintro (h | h | h) <;> simp [h]

def insideV (a b : List Vx) : Bool := a.all fun x => decide (x ∈ b)
def subsV : Nat → List Vx → List (List Vx)
  | 0, _ => [[]]
  | _ + 1, [] => []
  | k + 1, v :: s => (subsV k s).map (v :: ·) ++ subsV (k + 1) s
def facesV (s : List Vx) (k : Int) : List (List Vx) × Int := if chkV s ≠ 0 then ([], chkV s) else if k < 1 ∨ (s.length : Int) < k then ([], 2) else (subsV k.toNat s, 0)
def sharedV (a b : List Vx) (p : Bool) : List Vx := a.filter fun x => decide (x ∈ b) == p
theorem drop_cons' {α : Type} {l : List α} {k : Nat} (h : k < l.length) : l.drop k = l[k] :: l.drop (k + 1) := List.drop_eq_getElem_cons h
theorem take_snoc' {α : Type} {l : List α} {k : Nat} (h : k < l.length) : l.take (k + 1) = l.take k ++ [l[k]] := List.take_succ_eq_append_getElem h
theorem cmpL_drop (a b : List Vx) (k : Nat) : cmpL (a.drop k) (b.drop k) = if h : k < a.length then (if h' : k < b.length then (if cmpV a[k] b[k] = 0 then cmpL (a.drop (k + 1)) (b.drop (k + 1)) else cmpV a[k] b[k]) else 1) else if k < b.length then -1 else 0 := by
  by_cases h : k < a.length
  · by_cases h' : k < b.length
    · rw [dif_pos h, dif_pos h', drop_cons' h, drop_cons' h']; rfl
    · rw [dif_pos h, dif_neg h', drop_cons' h, List.drop_of_length_le (l := b) (by omega)]; rfl
  · by_cases h' : k < b.length
    · rw [dif_neg h, if_pos h', drop_cons' h', List.drop_of_length_le (l := a) (by omega)]; rfl
    · rw [dif_neg h, if_neg h', List.drop_of_length_le (l := b) (by omega), List.drop_of_length_le (l := a) (by omega)]; rfl
theorem chkG_drop (s : List Vx) (k : Nat) (h : k < s.length) : chkG (s.take k).getLast? (s.drop k) = if rngV s[k] = false then 2 else if (match (s.take k).getLast? with | some u => decide (0 ≤ cmpV u s[k]) | none => false) = true then 14 else chkG (s.take (k + 1)).getLast? (s.drop (k + 1)) := by
  have e : (s.take (k + 1)).getLast? = some s[k] := by rw [take_snoc' h, List.getLast?_append]; rfl
  rw [drop_cons' h, e]
  rfl
theorem last_take (s : List Vx) (k : Nat) (h : k < s.length) (h0 : 0 < k) : (s.take k).getLast? = some s[k - 1] := by
  obtain ⟨j, rfl⟩ : ∃ j, k = j + 1 := ⟨k - 1, by omega⟩
  rw [take_snoc' (by omega), List.getLast?_append]; rfl

theorem cmpL_step {a b : List Vx} {k : Nat} (h : k < a.length) (h' : k < b.length) (hc : cmpV a[k] b[k] = 0) : cmpL (a.drop k) (b.drop k) = cmpL (a.drop (k + 1)) (b.drop (k + 1)) := by rw [cmpL_drop, dif_pos h, dif_pos h', if_pos hc]
theorem mem_take_snoc {α : Type} {l : List α} {k : Nat} (h : k < l.length) {x : α} : x ∈ l.take (k + 1) ↔ x ∈ l.take k ∨ x = l[k] := by rw [take_snoc' h, List.mem_append, List.mem_singleton]
theorem insV_len : ∀ (s : List Vx) (v : Vx), (insV s v).length = s.length + 1
  | [], _ => rfl
  | u :: s, v => by
    unfold insV
    split
    · simp
    · simp [insV_len s v]
theorem putV_len (s : List Vx) (v : Vx) : s.length ≤ (putV s v).length ∧ (putV s v).length ≤ s.length + 1 := by
  unfold putV
  split
  · omega
  · rw [insV_len]; omega
theorem allV_len : ∀ (l s : List Vx), s.length ≤ (allV s l).length ∧ (allV s l).length ≤ s.length + l.length
  | [], s => by simp [allV]
  | v :: l, s => by
    have h1 := putV_len s v
    have h2 := allV_len l (putV s v)
    show _ ≤ (allV (putV s v) l).length ∧ (allV (putV s v) l).length ≤ _
    simp only [List.length_cons]
    omega
theorem all_snoc {l : List Vx} {p : Vx → Bool} {k : Nat} (h : k < l.length) : (l.take (k + 1)).all p = ((l.take k).all p && p l[k]) := by rw [take_snoc' h, List.all_append]; simp only [List.all_cons, List.all_nil, Bool.and_true]
theorem filter_snoc {α : Type} {l : List α} {p : α → Bool} {k : Nat} (h : k < l.length) : (l.take (k + 1)).filter p = (l.take k).filter p ++ (if p l[k] then [l[k]] else []) := by rw [take_snoc' h, List.filter_append]; congr 1; by_cases hp : p l[k] = true <;> simp [hp]
theorem cmpL_eq : ∀ {a b : List Vx}, cmpL a b = 0 ↔ a = b
  | [], [] => by simp [cmpL]
  | [], _ :: _ => by simp [cmpL]
  | _ :: _, [] => by simp [cmpL]
  | x :: a, y :: b => by
    unfold cmpL
    by_cases h : cmpV x y = 0
    · rw [if_pos h, cmpL_eq]
      simp [cmpV_eq.1 h]
    · rw [if_neg h]
      have : x ≠ y := fun e => h (cmpV_eq.2 e)
      simp [h, this]
theorem subsV_short : ∀ (k : Nat) (s : List Vx), s.length < k → subsV k s = []
  | 0, _, h => by omega
  | _ + 1, [], _ => rfl
  | k + 1, v :: s, h => by
    simp only [List.length_cons] at h
    unfold subsV
    rw [subsV_short k s (by omega), subsV_short (k + 1) s (by omega)]
    rfl
theorem subsV_len : ∀ (k : Nat) (s : List Vx), (subsV k s).length ≤ 2 ^ s.length
  | 0, s => by simp [subsV]; exact Nat.one_le_two_pow
  | _ + 1, [] => by simp [subsV]
  | k + 1, v :: s => by
    have h1 := subsV_len k s
    have h2 := subsV_len (k + 1) s
    unfold subsV
    rw [List.length_append, List.length_map, List.length_cons, Nat.pow_succ]
    omega
theorem subsV_drop (k : Nat) (s : List Vx) (i : Nat) (h : i < s.length) : subsV (k + 1) (s.drop i) = (subsV k (s.drop (i + 1))).map (s[i] :: ·) ++ subsV (k + 1) (s.drop (i + 1)) := by
  rw [drop_cons' h]; rfl
theorem asc_cons2 {u v : Vx} {s : List Vx} : Asc (u :: v :: s) ↔ cmpV u v < 0 ∧ Asc (v :: s) := by
  unfold Asc
  rw [List.pairwise_cons]
  constructor
  · rintro ⟨h1, h2⟩
    exact ⟨h1 v (by simp), h2⟩
  · rintro ⟨h1, h2⟩
    refine ⟨fun y hy => ?_, h2⟩
    rw [List.mem_cons] at hy
    rcases hy with rfl | hy
    · exact h1
    · exact cmpV_trans h1 ((List.pairwise_cons.1 h2).1 y hy)
theorem chkG_zero : ∀ (s : List Vx) (p : Option Vx), chkG p s = 0 ↔ (∀ v ∈ s, rngV v = true) ∧ Asc (p.toList ++ s)
  | [], none => by simp [chkG, Asc]
  | [], some u => by simp [chkG, Asc]
  | v :: s, p => by
    unfold chkG
    by_cases h1 : rngV v = false
    · rw [if_pos h1]
      simp [h1]
    · rw [if_neg h1]
      have h1' : rngV v = true := by simpa using h1
      cases p with
      | none =>
        simp only [Bool.false_eq_true, if_false]
        rw [chkG_zero s (some v)]
        simp [h1']
      | some u =>
        by_cases h2 : 0 ≤ cmpV u v
        · simp only [h2, decide_true, if_true]
          have : ¬ Asc (u :: v :: s) := fun h => by have := (asc_cons2.1 h).1; omega
          simp [this]
        · simp only [h2, decide_false, Bool.false_eq_true, if_false]
          rw [chkG_zero s (some v)]
          simp [h1', asc_cons2]
          omega
theorem chkV_zero {s : List Vx} : chkV s = 0 ↔ s.length ≠ 0 ∧ s.length ≤ 8 ∧ (∀ v ∈ s, rngV v = true) ∧ Asc s := by
  unfold chkV
  by_cases h1 : s.length = 0
  · rw [if_pos h1]; simp [h1]
  · rw [if_neg h1]
    by_cases h2 : 8 < s.length
    · rw [if_pos h2]
      simp
      omega
    · rw [if_neg h2, chkG_zero]
      simp only [Option.toList_none, List.nil_append]
      constructor
      · rintro ⟨h3, h4⟩; exact ⟨h1, by omega, h3, h4⟩
      · rintro ⟨_, _, h3, h4⟩; exact ⟨h3, h4⟩
theorem rngV_iff {v : Vx} : rngV v = true ↔ 0 ≤ v.1 ∧ v.1 < 8 ∧ 0 ≤ v.2 ∧ v.2 ≤ 1048576 := by
  unfold rngV
  simp [and_assoc]

end Go.Proofs.YtkedmlandjlogaaGreat
namespace Go.Proofs.YtkedmlandjlogaaGreat
open Go.RowKit
set_option maxHeartbeats 2000000

theorem possible_p (x : Vx) : Fn Tryz.prog 150 [dS RV x] (dB (rngV x)) := by
  (refine Fn.intro1 Tryz.func150 rfl rfl ?_; simp only [Tryz.ntmps150, List.length_cons, List.length_nil, Nat.reduceAdd, Nat.reduceSub, List.replicate_succ, List.replicate_zero, List.cons_append, List.nil_append])
  ((repeat' (first | (apply WL.opG; (focus (apply SYG.yes; (exact want_none rfl); (first | (apply SY.move <;> (exact oD)) | (apply SY.assign <;> (exact oD)) | (apply SY.load; (exact tD); (exact OpD.t rfl))))); dsimp only [setD, z0, z1]) | refine WL.nil ?_ | refine WC.seqK fun Kx hK => ?_ | (refine hK _ _ ?_; clear hK) | refine WC.region ?_ | (apply WL.opG; (focus (first | (apply SYG.no; first | exact want_notT rfl rfl rfl (by with_reducible rfl) | exact want_notF rfl rfl rfl (by with_reducible rfl)) | (apply SYG.yes; (first | exact want_none rfl | exact want_yes rfl rfl rfl (by with_reducible rfl)); ((first | exact yLss | exact yLeq | exact yGeq | exact yLoad | exact yFieldaddr | exact yPick | exact yBox | fail); all_goals infer_instance)))); dsimp only [setD, z0, z1]) | ((first | refine WL.caseP rfl rfl rfl (fun h => ?_) (fun h => ?_) | refine WL.caseN rfl rfl rfl (fun h => ?_) (fun h => ?_) | refine WL.caseB rfl rfl rfl (fun h => ?_) (fun h => ?_)) <;> (first | (exfalso; first | omega | contradiction) | (dsimp only [z0, z1]))) | refine WC.ret ?_)); all_goals (first | refine WC.id ?_ | refine WL.id ?_ | refine WDs.id ?_ | ((repeat clear hK); (repeat clear Kx))))
  all_goals ((refine ⟨trivial, _, rfl, ?_⟩; (first | exact fD | refine FinD.i ?_ | refine FinD.b ?_ | refine FinD.rowKE (.head _) ?_ | refine FinD.rowE (.head _) ?_ | refine FinD.nilKE (by decide) ?_ | refine FinD.nilE ?_ | refine FinD.s ?_)); unfold rngV; simp [*])
theorem nan_p (x : Int) : Fn Tryz.prog 230 [dI x] (dB false) := by
  (refine Fn.intro1 Tryz.func230 rfl rfl ?_; simp only [Tryz.ntmps230, List.length_cons, List.length_nil, Nat.reduceAdd, Nat.reduceSub, List.replicate_succ, List.replicate_zero, List.cons_append, List.nil_append])
  ((repeat' (first | (apply WL.opG; (focus (apply SYG.yes; (exact want_none rfl); (first | (apply SY.move <;> (exact oD)) | (apply SY.assign <;> (exact oD))))); dsimp only [setD, z0, z1]) | refine WL.nil ?_ | refine WC.seqK fun Kx hK => ?_ | (refine hK _ _ ?_; clear hK) | refine WC.region ?_ | (apply WL.opG; (focus (apply SYG.yes; (exact want_none rfl); ((first | exact yNeq | fail); all_goals infer_instance))); dsimp only [setD, z0, z1]) | refine WC.ret ?_)); all_goals (first | refine WC.id ?_ | refine WL.id ?_ | refine WDs.id ?_ | ((repeat clear hK); (repeat clear Kx))))
  all_goals ((refine ⟨trivial, _, rfl, ?_⟩; (first | exact fD | refine FinD.i ?_ | refine FinD.b ?_ | refine FinD.rowKE (.head _) ?_ | refine FinD.rowE (.head _) ?_ | refine FinD.nilKE (by decide) ?_ | refine FinD.nilE ?_ | refine FinD.s ?_)); simp)
def cmpI (x y : Int) : Int := if x < y then -1 else if y < x then 1 else 0
theorem cmpI_p (x y : Int) : Fn Tryz.prog 193 [dI x, dI y] (dI (cmpI x y)) := by
  (refine Fn.intro1 Tryz.func193 rfl rfl ?_; simp only [Tryz.ntmps193, List.length_cons, List.length_nil, Nat.reduceAdd, Nat.reduceSub, List.replicate_succ, List.replicate_zero, List.cons_append, List.nil_append])
  ((repeat' (first | (apply WL.opG; (focus (apply SYG.yes; (exact want_none rfl); (first | (apply SY.move <;> (exact oD)) | (apply SY.assign <;> (exact oD))))); dsimp only [setD, z0, z1]) | refine WL.nil ?_ | refine WC.seqK fun Kx hK => ?_ | (refine hK _ _ ?_; clear hK) | refine WC.region ?_ | (apply WL.opG; (focus (apply SYG.yes; (exact want_none rfl); ((first | (apply SY.call (nan_p _) Tryz.call230; (exact aD)) | exact yLss | exact yGtr | fail); all_goals infer_instance))); dsimp only [setD, z0, z1]) | (apply WC.condF; (exact oD); (with_reducible rfl)) | (apply WC.condD; (exact oD); (all_goals intro h); (all_goals try (exfalso; first | omega | contradiction))) | refine WC.skip ?_ | refine WC.ret ?_ | refine ThenD.r ?_)); all_goals (first | refine WC.id ?_ | refine WL.id ?_ | refine WDs.id ?_ | ((repeat clear hK); (repeat clear Kx))))
  all_goals ((refine ⟨trivial, _, rfl, ?_⟩; (first | exact fD | refine FinD.i ?_ | refine FinD.b ?_ | refine FinD.rowKE (.head _) ?_ | refine FinD.rowE (.head _) ?_ | refine FinD.nilKE (by decide) ?_ | refine FinD.nilE ?_ | refine FinD.s ?_)); unfold cmpI; simp [*])
  all_goals omega
def orI : List Int → Int
  | [] => 0
  | x :: l => if x = 0 then orI l else x
theorem orI_drop {l : List Int} {k : Nat} (h : k < l.length) : orI (l.drop k) = if l[k] = 0 then orI (l.drop (k + 1)) else l[k] := by
  rw [List.drop_eq_getElem_cons h]; rfl
theorem orI_p (l : List Int) : Fn Tryz.prog 192 [dS Ints l] (dI (orI l)) := by
  (refine Fn.intro1 Tryz.func192 rfl rfl ?_; simp only [Tryz.ntmps192, List.length_cons, List.length_nil, Nat.reduceAdd, Nat.reduceSub, List.replicate_succ, List.replicate_zero, List.cons_append, List.nil_append])
  ((repeat' (first | (apply WL.opG; (focus (apply SYG.yes; (exact want_none rfl); (first | (apply SY.move <;> (exact oD)) | (apply SY.assign <;> (exact oD)) | (apply SY.load; (exact tD); (exact OpD.t rfl))))); dsimp only [setD, z0, z1]) | refine WL.nil ?_ | refine WC.seqK fun Kx hK => ?_ | (refine hK _ _ ?_; clear hK) | refine WC.region ?_ | (apply WL.opG; (focus (apply SYG.yes; (exact want_none rfl); ((first | exact yLen | fail); all_goals infer_instance))); dsimp only [setD, z0, z1]) | refine WC.block ?_)); all_goals (first | refine WC.id ?_ | refine WL.id ?_ | refine WDs.id ?_ | ((repeat clear hK); (repeat clear Kx))))
  (first | refine WC.know (t := 0) rfl le_K fun hl0 => ?_ | refine WC.know (t := 0) rfl le_A fun hl0 => ?_ | refine WC.know (t := 0) rfl le_C fun hl0 => ?_); simp only [maxLen] at hl0
  (refine WC.loopU (X := Nat) (fun k => [(8, dI (k : Int)), (2, dA), (5, dA), (9, dA), (10, dA), (11, dA), (12, dA), (13, dA), (14, dA), (15, dA), (16, dA)]) (fun k => []) (fun k => l.length - k) (fun k => k ≤ l.length ∧ orI l = orI (l.drop k)) 0 ?start ?frame0 ?objs0 ?round)
  case start => exact ⟨Nat.zero_le _, rfl⟩
  case frame0 => ((try dsimp only [upds, z0, z1]); repeat (first | exact LeF.nil | refine LeF.cons (by first | with_reducible exact Dat.le_any _ | with_reducible exact Dat.le_refl _ | exact le_ii (by omega) | exact Dat.le_nil | exact Dat.le_nilK (by decide) | assumption | exact Dat.le_refl _ | exact le_eq (by simp)) ?_))
  case objs0 => rfl
  case round =>
    rintro k ⟨h1, h2⟩
    dsimp only [upds, z0, z1]
    ((repeat' (first | (apply WL.opG; (focus (apply SYG.yes; (exact want_none rfl); (first | (apply SY.move <;> (exact oD)) | (apply SY.assign <;> (exact oD)) | (apply SY.load; (exact tD); (exact OpD.t rfl))))); dsimp only [setD, z0, z1]) | refine WL.nil ?_ | refine WC.seqK fun Kx hK => ?_ | (refine hK _ _ ?_; clear hK) | (refine Kont.skip ?_; clear hK) | refine WC.region ?_ | (apply WL.opG; (focus (apply SYG.yes; (exact want_none rfl); ((first | exact yLss | exact yNeq | exact yAdd | exact yIndexaddr | fail); all_goals infer_instance))); dsimp only [setD, z0, z1]) | (apply WC.condD; (exact oD); (all_goals intro h); (all_goals try (exfalso; first | omega | contradiction))) | (apply WC.condN; (exact oD); (all_goals intro h); (all_goals try (exfalso; first | omega | contradiction))) | refine WC.skip ?_ | refine WC.ret ?_ | refine WC.exit ?_ | refine WC.block ?_ | refine ThenD.n ?_ | refine ThenD.r ?_ | refine InBlockD.r ?_)); all_goals (first | refine WC.id ?_ | refine WL.id ?_ | refine WDs.id ?_ | ((repeat clear hK); (repeat clear Kx))))
    · (refine ⟨trivial, _, rfl, ?_⟩; (first | exact fD | refine FinD.i ?_ | refine FinD.b ?_ | refine FinD.rowKE (.head _) ?_ | refine FinD.rowE (.head _) ?_ | refine FinD.nilKE (by decide) ?_ | refine FinD.nilE ?_ | refine FinD.s ?_))
      rw [h2, orI_drop (by omega), if_neg h]
    · (refine ⟨k + 1, ?_, by first | omega | (simp only; omega), rfl, ?_⟩; rotate_left; ((try dsimp only [upds, z0, z1]); repeat (first | exact LeF.nil | refine LeF.cons (by first | with_reducible exact Dat.le_any _ | with_reducible exact Dat.le_refl _ | exact le_ii (by omega) | exact Dat.le_nil | exact Dat.le_nilK (by decide) | assumption | exact Dat.le_refl _ | exact le_eq (by simp)) ?_)); (try dsimp only))
      exact ⟨by omega, by rw [h2, orI_drop (by omega), if_pos h]⟩
    · (refine ⟨trivial, _, rfl, ?_⟩; (first | exact fD | refine FinD.i ?_ | refine FinD.b ?_ | refine FinD.rowKE (.head _) ?_ | refine FinD.rowE (.head _) ?_ | refine FinD.nilKE (by decide) ?_ | refine FinD.nilE ?_ | refine FinD.s ?_))
      rw [h2, List.drop_of_length_le (by omega)]; rfl
theorem cmpV_or (x y : Vx) : orI [cmpI x.1 y.1, cmpI x.2 y.2] = cmpV x y := by
  unfold cmpV cmpI orI orI orI
  repeat' split
  all_goals first | rfl | omega
theorem order_p (x y : Vx) : Fn Tryz.prog 151 [dS RV x, dS RV y] (dI (cmpV x y)) := by
  (refine Fn.intro1 Tryz.func151 rfl rfl ?_; simp only [Tryz.ntmps151, List.length_cons, List.length_nil, Nat.reduceAdd, Nat.reduceSub, List.replicate_succ, List.replicate_zero, List.cons_append, List.nil_append])
  ((repeat' (first | ((first | apply WL.opG | apply WD.op); (focus (apply SYG.yes; (exact want_none rfl); (first | (apply SY.assign <;> (exact oD)) | (apply SY.load; (exact tD); (exact OpD.t rfl))))); dsimp only [setD, z0, z1]) | refine WL.nil ?_ | refine WD.nil ?_ | refine WC.seqK fun Kx hK => ?_ | (refine hK _ _ ?_; clear hK) | refine WC.region ?_ | (apply WC.draw; kernel_rfl; kernel_rfl) | ((first | apply WL.opG | apply WD.op); (focus (apply SYG.yes; (exact want_none rfl); ((first | (apply SY.call (cmpI_p _ _) Tryz.call193; (exact aD)) | (apply SY.call (orI_p [_, _]) Tryz.call192; (exact aD)) | exact yFieldaddr | exact yBuildslice | exact yBox | fail); all_goals infer_instance))); dsimp only [setD, z0, z1]) | refine WC.ret ?_)); all_goals (first | refine WC.id ?_ | refine WL.id ?_ | refine WDs.id ?_ | ((repeat clear hK); (repeat clear Kx))))
  all_goals ((refine ⟨trivial, _, rfl, ?_⟩; (first | exact fD | refine FinD.i ?_ | refine FinD.b ?_ | refine FinD.rowKE (.head _) ?_ | refine FinD.rowE (.head _) ?_ | refine FinD.nilKE (by decide) ?_ | refine FinD.nilE ?_ | refine FinD.s ?_)); exact cmpV_or _ _)
set_option maxHeartbeats 4000000 in
theorem chk_p (s : List Vx) : Fn Tryz.prog 89 [dS Verts s] (dI (chkV s)) := by
  (refine Fn.intro1 Tryz.func89 rfl rfl ?_; simp only [Tryz.ntmps89, List.length_cons, List.length_nil, Nat.reduceAdd, Nat.reduceSub, List.replicate_succ, List.replicate_zero, List.cons_append, List.nil_append])
  ((repeat' (first | ((first | apply WL.opG | apply WD.op); (focus (apply SYG.yes; (exact want_none rfl); (first | (apply SY.move <;> (exact oD)) | (apply SY.assign <;> (exact oD)) | (apply SY.load; (exact tD); (exact OpD.t rfl))))); dsimp only [setD, z0, z1]) | refine WL.nil ?_ | refine WC.seqK fun Kx hK => ?_ | (refine hK _ _ ?_; clear hK) | refine WC.region ?_ | ((first | apply WL.opG | apply WD.op); (focus (first | (apply SYG.no; first | exact want_notT rfl rfl rfl (by with_reducible rfl) | exact want_notF rfl rfl rfl (by with_reducible rfl)) | (apply SYG.yes; (first | exact want_none rfl | exact want_yes rfl rfl rfl (by with_reducible rfl)); ((first | exact yGtr | exact yEql | exact yLen | fail); all_goals infer_instance)))); dsimp only [setD, z0, z1]) | (apply WC.condD; (exact oD); (all_goals intro h); (all_goals try (exfalso; first | omega | contradiction))) | refine WC.skip ?_ | refine WC.ret ?_ | refine WC.block ?_ | refine ThenD.r ?_ | refine InBlockD.r ?_)); all_goals (first | refine WC.id ?_ | refine WL.id ?_ | refine WDs.id ?_ | ((repeat clear hK); (repeat clear Kx))))
  · (refine ⟨trivial, _, rfl, ?_⟩; (first | exact fD | refine FinD.i ?_ | refine FinD.b ?_ | refine FinD.rowKE (.head _) ?_ | refine FinD.rowE (.head _) ?_ | refine FinD.nilKE (by decide) ?_ | refine FinD.nilE ?_ | refine FinD.s ?_))
    unfold chkV; rw [if_pos (by omega)]
  · (refine ⟨trivial, _, rfl, ?_⟩; (first | exact fD | refine FinD.i ?_ | refine FinD.b ?_ | refine FinD.rowKE (.head _) ?_ | refine FinD.rowE (.head _) ?_ | refine FinD.nilKE (by decide) ?_ | refine FinD.nilE ?_ | refine FinD.s ?_))
    unfold chkV; rw [if_neg (by omega), if_pos (by omega)]
  · rename_i h1 h2
    have hs : chkV s = chkG none s := by unfold chkV; rw [if_neg (by omega), if_neg (by omega)]
    (refine WC.loopU (X := Nat) (fun k => [(15, dI (k : Int)), (2, dA), (3, dA), (4, dA), (16, dA), (17, dA), (18, dA), (19, dA), (20, dA), (21, dA), (22, dA), (23, dA), (24, dA), (25, dA), (26, dA), (27, dA), (28, dA), (29, dA), (30, dA), (31, dA), (32, dA), (33, dA), (34, dA), (35, dA)]) (fun k => []) (fun k => s.length - k) (fun k => k ≤ s.length ∧ chkV s = chkG (s.take k).getLast? (s.drop k)) 0 ?start ?frame0 ?objs0 ?round)
    case start => exact ⟨Nat.zero_le _, by rw [hs]; rfl⟩
    case frame0 => ((try dsimp only [upds, z0, z1]); repeat (first | exact LeF.nil | refine LeF.cons (by first | with_reducible exact Dat.le_any _ | with_reducible exact Dat.le_refl _ | exact le_ii (by omega) | exact Dat.le_nil | exact Dat.le_nilK (by decide) | assumption | exact Dat.le_refl _ | exact le_eq (by simp)) ?_))
    case objs0 => rfl
    case round =>
      rintro k ⟨h3, h4⟩
      dsimp only [upds, z0, z1]
      ((repeat' (first | ((first | apply WL.opG | apply WD.op); (focus (apply SYG.yes; (exact want_none rfl); (first | (apply SY.move <;> (exact oD)) | (apply SY.assign <;> (exact oD)) | (apply SY.load; (exact tD); (exact OpD.t rfl))))); dsimp only [setD, z0, z1]) | refine WL.nil ?_ | refine WD.nil ?_ | refine WC.seqK fun Kx hK => ?_ | (refine hK _ _ ?_; clear hK) | (refine Kont.skip ?_; clear hK) | refine WC.region ?_ | (apply WC.draw; kernel_rfl; kernel_rfl) | (apply WL.alloc; (exact tzV); (first | exact shape_X rfl | exact shape_XV | exact shape_C0 rfl); (intro _; dsimp only [setD, z0, z1])) | (apply WL.storeF; (exact tD); rfl; (exact oD); (exact hD); dsimp only [setD, z0, z1]) | ((first | apply WL.opG | apply WD.op); (focus (first | (apply SYG.no; first | exact want_notT rfl rfl rfl (by with_reducible rfl) | exact want_notF rfl rfl rfl (by with_reducible rfl)) | (apply SYG.yes; (first | exact want_none rfl | exact want_yes rfl rfl rfl (by with_reducible rfl)); ((first | (apply SY.call (order_p _ _) Tryz.call151; (exact aD)) | (apply SY.call (possible_p _) Tryz.call150; (exact aD)) | (apply SY.ixKJ elV (OpD.t rfl) (OpD.t rfl) (k - 1); omega; omega) | exact yMove | exact yLss | exact yGtr | exact yGeq | exact yNot | exact yAdd | exact ySub | exact yLoad | exact yIndexaddr | exact yPick | fail); all_goals infer_instance)))); dsimp only [setD, z0, z1]) | ((first | refine WL.caseP rfl rfl rfl (fun h => ?_) (fun h => ?_) | refine WL.caseN rfl rfl rfl (fun h => ?_) (fun h => ?_) | refine WL.caseB rfl rfl rfl (fun h => ?_) (fun h => ?_) | refine WD.caseP rfl rfl rfl (fun h => ?_) (fun h => ?_) | refine WD.caseN rfl rfl rfl (fun h => ?_) (fun h => ?_) | refine WD.caseB rfl rfl rfl (fun h => ?_) (fun h => ?_)) <;> (first | (exfalso; first | omega | contradiction) | (dsimp only [z0, z1]))) | (apply WC.condF; (exact oD); (with_reducible rfl)) | (apply WC.condD; (exact oD); (all_goals intro h); (all_goals try (exfalso; first | omega | contradiction))) | (apply WC.condNB; (exact oD); (all_goals intro h); (all_goals try (exfalso; first | omega | contradiction))) | refine WC.skip ?_ | refine WC.ret ?_ | refine WC.exit ?_ | refine WC.block ?_ | refine ThenD.n ?_ | refine ThenD.r ?_ | refine InBlockD.r ?_)); all_goals (first | refine WC.id ?_ | refine WL.id ?_ | refine WDs.id ?_ | ((repeat clear hK); (repeat clear Kx))))
      all_goals try (rw [chkG_drop s k (by omega)] at h4)
      · (refine ⟨trivial, _, rfl, ?_⟩; (first | exact fD | refine FinD.i ?_ | refine FinD.b ?_ | refine FinD.rowKE (.head _) ?_ | refine FinD.rowE (.head _) ?_ | refine FinD.nilKE (by decide) ?_ | refine FinD.nilE ?_ | refine FinD.s ?_))
        rw [h4, if_pos h]
      · (refine ⟨trivial, _, rfl, ?_⟩; (first | exact fD | refine FinD.i ?_ | refine FinD.b ?_ | refine FinD.rowKE (.head _) ?_ | refine FinD.rowE (.head _) ?_ | refine FinD.nilKE (by decide) ?_ | refine FinD.nilE ?_ | refine FinD.s ?_))
        have h5 : rngV s[k] = true := by assumption
        rw [h4, if_neg (by simp [h5]), last_take _ _ (by omega) (by omega), if_pos (by simpa using h)]
      · (refine ⟨k + 1, ?_, by first | omega | (simp only; omega), rfl, ?_⟩; rotate_left; ((try dsimp only [upds, z0, z1]); repeat (first | exact LeF.nil | refine LeF.cons (by first | with_reducible exact Dat.le_any _ | with_reducible exact Dat.le_refl _ | exact le_ii (by omega) | exact Dat.le_nil | exact Dat.le_nilK (by decide) | assumption | exact Dat.le_refl _ | exact le_eq (by simp)) ?_)); (try dsimp only))
        refine ⟨by omega, ?_⟩
        have h5 : rngV s[k] = true := by assumption
        rw [h4, if_neg (by simp [h5]), last_take _ _ (by omega) (by omega), if_neg (by simpa using h)]
      · (refine ⟨k + 1, ?_, by first | omega | (simp only; omega), rfl, ?_⟩; rotate_left; ((try dsimp only [upds, z0, z1]); repeat (first | exact LeF.nil | refine LeF.cons (by first | with_reducible exact Dat.le_any _ | with_reducible exact Dat.le_refl _ | exact le_ii (by omega) | exact Dat.le_nil | exact Dat.le_nilK (by decide) | assumption | exact Dat.le_refl _ | exact le_eq (by simp)) ?_)); (try dsimp only))
        refine ⟨by omega, ?_⟩
        have h5 : rngV s[k] = true := by assumption
        have h0 : (s.take k).getLast? = none := by
          have : k = 0 := by omega
          rw [this]; rfl
        rw [h4, if_neg (by simp [h5]), h0]
        rfl
      · (refine ⟨trivial, _, rfl, ?_⟩; (first | exact fD | refine FinD.i ?_ | refine FinD.b ?_ | refine FinD.rowKE (.head _) ?_ | refine FinD.rowE (.head _) ?_ | refine FinD.nilKE (by decide) ?_ | refine FinD.nilE ?_ | refine FinD.s ?_))
        rw [h4, List.drop_of_length_le (by omega)]
        rfl
end Go.Proofs.YtkedmlandjlogaaGreat
