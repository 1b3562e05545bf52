/-
  Part 22 of the texts that the claims of this seat lean on: walks of the program's functions by contracts over symbolic frames, and plain laws of what they compute. No condition.
-/
import Derived.Test.YtkedmlandjlogaaJ18
import Derived.Test.YtkedmlandjlogaaJ21
set_option linter.unusedVariables false
set_option linter.unusedSimpArgs false
set_option linter.unusedSectionVars false
namespace Go.Proofs.Ytkedmlandjlogaa
open Go.RowKit
set_option maxRecDepth 100000
theorem laidK : laidOutB Try.prog = true := by kernel_rfl
def is64 (n : Int) : Prop := -9223372036854775808 ≤ n ∧ n ≤ 9223372036854775807
theorem wf64 {n : Int} (h : is64 n) : (Lit.int .i64 n).wf = true := by
  obtain ⟨h1, h2⟩ := h
  show (decide (IntKind.i64.min ≤ n) && decide (n ≤ IntKind.i64.max)) = true
  have e1 : IntKind.i64.min = -9223372036854775808 := by decide
  have e2 : IntKind.i64.max = 9223372036854775807 := by decide
  rw [e1, e2, decide_eq_true h1, decide_eq_true h2]; rfl
def kvV (x : Int × Int) : Value := .agg #[.int .i64 x.1, .int .i64 x.2]
def okV (x : Int × Int) : Prop := is64 x.1 ∧ is64 x.2
theorem rowV' : 69 < Try.prog.types.size := of_decide_eq_true (by kernel_rfl)
theorem cellsV' : Try.prog.cellsOf 69 = 2 := by kernel_rfl
theorem cellsI' : Try.prog.cellsOf 3 = 1 := by kernel_rfl
theorem lits_V (d : Nat) {x : Int × Int} (h : okV x) : Try.prog.keyLits (d + 2) 69 [.int .i64 x.1, .int .i64 x.2] = some [.int .i64 x.1, .int .i64 x.2] := by
  obtain ⟨h1, h2⟩ := h
  unfold Program.keyLits
  simp only [Try.underlying69, cellsV']
  simp [cellsI', Program.keyLits, Try.underlying3, wf64 h1, wf64 h2]
theorem keyT_V : KeyT Try.prog 69 kvV okV where
  law := Go.Maps.Keyed.of_law (deep_law_laid laidK (m := 2) (by omega) rowV' (by kernel_rfl) (by rw [Try.underlying69]))
  lit := fun x h => by
    refine ⟨.string (keyBytes [.int .i64 x.1, .int .i64 x.2]), ?_⟩
    unfold keyOf
    simp only [Try.underlying69]
    have hk : Try.prog.keyType 69 = true := by kernel_rfl
    have hf : (kvV x).formed Try.prog 69 = true := by simp [kvV, Value.formed, Try.underlying69, cellsV']
    obtain ⟨d, hd⟩ : ∃ d, Try.prog.types.size = d + 1 := ⟨Try.prog.types.size - 1, by have := rowV'; omega⟩
    rw [hk, hf, hd]
    have := lits_V d h
    simp only [Bool.and_self, if_true]
    rw [show (kvV x).cells.toList = [.int .i64 x.1, .int .i64 x.2] from rfl, this]
    rfl
  inj := fun x y _ _ h => by
    unfold kvV at h
    simp at h
    exact Prod.ext h.1 h.2
def padK (s : List Vx) : List Vx := s ++ List.replicate (8 - s.length) (-1, 0)
def kvK (s : List Vx) : Value := .agg (flatV (padK s)).toArray
def okK (s : List Vx) : Prop := s.length ≤ 8 ∧ ∀ v ∈ s, okV v ∧ 0 ≤ v.1
theorem rowK' : 87 < Try.prog.types.size := of_decide_eq_true (by kernel_rfl)
theorem cellsK' : Try.prog.cellsOf 87 = 16 := by kernel_rfl
theorem padK_len {s : List Vx} (h : s.length ≤ 8) : (padK s).length = 8 := by unfold padK; simp; omega
theorem padK_ok {s : List Vx} (h : okK s) : ∀ v ∈ padK s, okV v := fun v hv => by
  unfold padK at hv
  rcases List.mem_append.1 hv with hv | hv
  · exact (h.2 v hv).1
  · rw [(List.mem_replicate.1 hv).2]; exact ⟨by unfold is64; omega, by unfold is64; omega⟩
theorem mapM_all {α β : Type} {f : α → Option β} {g : α → β} : ∀ (L : List α), (∀ i ∈ L, f i = some (g i)) → L.mapM f = some (L.map g)
  | [], _ => rfl
  | a :: L, h => by
    rw [List.mapM_cons, h a (by simp), mapM_all L fun i hi => h i (by simp [hi])]
    rfl
theorem flatV_at : ∀ (l : List Vx) (i : Nat) (h : i < l.length), ((flatV l).drop (i * 2)).take 2 = [.int .i64 l[i].1, .int .i64 l[i].2]
  | [], i, h => by simp at h
  | x :: l, 0, _ => by simp [flatV_cons]
  | x :: l, i + 1, h => by
    rw [flatV_cons, show (i + 1) * 2 = i * 2 + 2 by omega]
    simpa using flatV_at l i (by simpa using h)
theorem lits_K (d : Nat) {s : List Vx} (h : okK s) : ∃ l, Try.prog.keyLits (d + 3) 87 (flatV (padK s)) = some l := by
  have hl : (flatV (padK s)).length = 16 := by rw [flatV_len, padK_len h.1]
  unfold Program.keyLits
  simp only [Try.underlying87, cellsK', hl]
  simp only [if_true, cellsV']
  rw [mapM_all (g := fun i => [Lit.int .i64 ((padK s).getD i (0, 0)).1, Lit.int .i64 ((padK s).getD i (0, 0)).2]) _ fun i hi => ?_]
  · exact ⟨_, rfl⟩
  · have hi' : i < (padK s).length := by rw [padK_len h.1]; exact List.mem_range.1 hi
    rw [flatV_at _ i hi', lits_V d (padK_ok h _ (List.getElem_mem hi'))]
    simp [List.getD, hi']
theorem flatV_inj : ∀ {a b : List Vx}, flatV a = flatV b → a = b
  | [], [], _ => rfl
  | [], y :: b, h => by simp [flatV_cons, flatV_nil] at h
  | x :: a, [], h => by simp [flatV_cons, flatV_nil] at h
  | x :: a, y :: b, h => by
    rw [flatV_cons, flatV_cons] at h
    simp at h
    rw [Prod.ext h.1 h.2.1, flatV_inj h.2.2]
theorem padK_inj : ∀ {a b : List Vx}, (∀ v ∈ a, 0 ≤ v.1) → (∀ v ∈ b, 0 ≤ v.1) → padK a = padK b → a = b := by
  have go : ∀ {a b : List Vx} (i j : Nat), (∀ v ∈ a, 0 ≤ v.1) → (∀ v ∈ b, 0 ≤ v.1) → a ++ List.replicate i ((-1, 0) : Vx) = b ++ List.replicate j (-1, 0) → a = b := by
    intro a
    induction a with
    | nil =>
      intro b i j _ hb h
      cases b with
      | nil => rfl
      | cons y b =>
        cases i with
        | zero => simp at h
        | succ i =>
          rw [List.replicate_succ] at h
          simp at h
          have := hb y (by simp)
          rw [← h.1] at this
          simp at this
    | cons x a ih =>
      intro b i j ha hb h
      cases b with
      | nil =>
        cases j with
        | zero => simp at h
        | succ j =>
          rw [List.replicate_succ] at h
          simp at h
          have := ha x (by simp)
          rw [h.1] at this
          simp at this
      | cons y b =>
        simp only [List.cons_append, List.cons.injEq] at h
        rw [h.1, ih i j (fun v hv => ha v (by simp [hv])) (fun v hv => hb v (by simp [hv])) h.2]
  intro a b ha hb h
  exact go _ _ ha hb h
theorem keyT_K : KeyT Try.prog 87 kvK okK where
  law := Go.Maps.Keyed.of_law (deep_law_laid laidK (m := 3) (by omega) rowK' (by kernel_rfl) (by rw [Try.underlying87]))
  lit := fun s h => by
    obtain ⟨d, hd⟩ : ∃ d, Try.prog.types.size = d + 2 := ⟨Try.prog.types.size - 2, by have := rowK'; omega⟩
    obtain ⟨l, hl⟩ := lits_K d h
    refine ⟨.string (keyBytes l), ?_⟩
    unfold keyOf
    simp only [Try.underlying87]
    have hk : Try.prog.keyType 87 = true := by kernel_rfl
    have hf : (kvK s).formed Try.prog 87 = true := by
      simp [kvK, Value.formed, Try.underlying87, cellsK', flatV_len, padK_len h.1]
    rw [hk, hf, hd]
    simp only [Bool.and_self, if_true]
    rw [show (kvK s).cells.toList = flatV (padK s) from rfl, hl]
    rfl
  inj := fun x y hx hy h => by
    unfold kvK at h
    injection h with h
    exact padK_inj (fun v hv => (hx.2 v hv).2) (fun v hv => (hy.2 v hv).2) (flatV_inj (List.toArray_inj h))
theorem keyT_I : KeyT Try.prog 3 (fun n : Int => Value.int .i64 n) is64 where
  law := Go.Maps.int_keyed Try.underlying3
  lit := fun n h => ⟨_, Go.Maps.keyOf_int_mk Try.underlying3 (wf64 h)⟩
  inj := fun x y _ _ h => by injection h
end Go.Proofs.Ytkedmlandjlogaa
