/-
  The arms of XBase inside a fence (for ranges over functions); slices whose elements are values known by name; the marks of ranges over functions inside a plain loop.
-/
import Derived.Test.YtjifihfkoflbiaaBase
import Derived.RangeFuncNested
import Derived.RangeFuncBound
import Derived.RangeFuncCalls
import Derived.RangeFuncLeaves
import Derived.Shelf.Abstract
import Derived.Shelf.RegionOpen
import Derived.WalkKit
import Derived.OwnWalkIn
import Derived.TacticsInMore
import Derived.LoopNIn
import Derived.LoopIn
namespace Go.Proofs.Ytjifihfkoflbiaa
open Go.RowKit

/-- an element that is just the value -/
def RW : Rel Value := fun _ _ v x => v = x
instance : Good RW := ⟨fun h _ => h, fun h _ => h, fun h => h⟩

section
variable {F : Fence} {n : Nat} {P : Program} {ops : Array Oper} {rest : List Oper} {o : Oper} {a : Act} {Q : Exit → Act → World → Prop} {w : World}

theorem wpListIn_valueG (hw : Region.wanted o (yielded ops a.tmps) = true) (hab : o.about P w a.eval = none) (hnd : ∀ c, o.op ≠ .defer c) {v : Value} {w' : World} (h : (execOp a.eval o).run P w = .ok (.value v) w') (hk : wpListIn F n P ops Q rest (a.put o.dst v) w') : wpListIn F n P ops Q (o :: rest) a w :=
  wpListIn_step fun K hK => by
    rw [if_pos hw]
    unfold Oper.wpIn
    refine ⟨fun f hf => (by rw [hab] at hf; cases hf), ?_⟩
    rw [Oper.semAt_plain F _ _ hnd, h]
    exact hK _ _ hk

/-- len(v) -/
theorem wi_len {x : Operand} {t e : TypeId} {dst : Option Tmp} {ty1 : TypeId} {ps1 : String} {af1 : Array Edge} {g1 : Option (Nat × Bool)}
    {v : Value} (hu : P.underlying t = some (.slice e)) (hw : Region.wanted { dst := dst, op := .call { callee := .builtin .len, args := #[x], argTypes := #[t] }, type := ty1, pos := ps1, after := af1, guard := g1 } (yielded ops a.tmps) = true) (hx : a.eval x = v) {m : Nat} (hv : Len v m) (hk : wpListIn F n P ops Q rest (a.put dst (.int .i64 m)) w) :
    wpListIn F n P ops Q ({ dst := dst, op := .call { callee := .builtin .len, args := #[x], argTypes := #[t] }, type := ty1, pos := ps1, after := af1, guard := g1 } :: rest) a w := by
  refine wpListIn_valueG hw (by simp [Oper.about, resolve, Target.leads, Sem.run_pure]) (fun c hc => by cases hc) (v := .int .i64 m) (w' := w) ?_ hk
  subst hx
  unfold execOp
  simp only [resolve, invoke, builtin, Sem.run_bind, Sem.run_pure, Result.andThen_ok, List.map_toArray, List.map_cons, List.map_nil, run_len hu hv]

variable {t e : TypeId} {bytes : Nat} {z : Value}

/-- v[k], loaded: elements of one cell -/
theorem wi_ix {x i : Operand} {d : Tmp} {dst2 : Option Tmp} {ty1 ty2 : TypeId} {ps1 ps2 : String} {af1 af2 : Array Edge} {g1 g2 : Option (Nat × Bool)} (E : ElT P t e 1 z bytes false)
    (hw : Region.wanted { dst := some d, op := .indexAddr t x i, type := ty1, pos := ps1, after := af1, guard := g1 } (yielded ops a.tmps) = true) (hw2 : ∀ p : Addr, Region.wanted { dst := dst2, op := .load e (.tmp d), type := ty2, pos := ps2, after := af2, guard := g2 } (yielded ops (a.put (some d) (.pointer (some p))).tmps) = true)
    (hdl : ∀ p : Value, (a.put (some d) p).eval (.tmp d) = p) {α : Type} {R : Rel α} {PB : Nat → Prop} {v : Value} {xs : List α} {k : Nat} (hx : a.eval x = v) (hi : a.eval i = .int .i64 (k : Int))
    (hv : Arr R PB w v xs) (hk : k < xs.length)
    (h : ∀ (p : Addr) (u : Value), R PB w u xs[k] → u.oneCell' = true → wpListIn F n P ops Q rest ((a.put (some d) (.pointer (some p))).put dst2 u) w) :
    wpListIn F n P ops Q ({ dst := some d, op := .indexAddr t x i, type := ty1, pos := ps1, after := af1, guard := g1 } :: { dst := dst2, op := .load e (.tmp d), type := ty2, pos := ps2, after := af2, guard := g2 } :: rest) a w := by
  obtain ⟨ad, cap, rfl, h1, h2, h3⟩ := hv
  obtain ⟨u, b, off, r1, r2, rfl, r4, r5⟩ := h3 k hk
  have hix := run_indexAt (w := w) E b off xs.length cap k .i64 hk
  rw [Nat.mul_one] at hix
  refine wpListIn_valueG hw rfl (fun c hc => by cases hc) (v := .pointer (some ⟨b, off + k, none⟩)) (w' := w) ?_ ?_
  · unfold execOp
    simp only [hx, hi, Sem.run_bind, hix, Result.andThen_ok, Sem.run_pure]
  · refine wpListIn_valueG (hw2 _) rfl (fun c hc => by cases hc) (v := u) (w' := w) ?_ (h _ u r1 r2)
    have he := hdl (.pointer (some ⟨b, off + k, none⟩))
    unfold execOp
    simp only [he, Instr.loadAt, Instr.sureAddr, loadVar, Sem.run_bind, E.agg, Result.andThen_ok, Sem.run_pure, Bool.false_eq_true, if_false, run_load, r5]
end

/-- the rows of a slice of slices, each row's value by name -/
theorem rows_named {P : Nat → Prop} {w : World} {u : Value} {l : List (List Int)} (h : Rows P w u l) : ∃ xs : List (Value × List Int), xs.map Prod.snd = l ∧ (∀ x ∈ xs, Ints P w x.1 x.2 ∧ x.1.oneCell' = true) ∧ Arr RW P w u (xs.map Prod.fst) := by
  obtain ⟨a, cap, hv, h1, h2, h3⟩ := h
  have hch : ∀ k : Nat, ∃ y : Value, ∀ h : k < l.length, Ints P w y l[k] ∧ y.oneCell' = true ∧ ∃ b off, a = some ⟨b, off, none⟩ ∧ P b ∧ w.cell? ⟨b, off + k, none⟩ = some y := by
    intro k
    by_cases hk : k < l.length
    · obtain ⟨y, b, off, r1, r2, r3, r4, r5⟩ := h3 k hk
      exact ⟨y, fun _ => ⟨r1, r2, b, off, r3, r4, r5⟩⟩
    · exact ⟨undef, fun h => absurd h hk⟩
  obtain ⟨f, hf⟩ := Classical.axiomOfChoice hch
  refine ⟨(List.range l.length).map fun k => (f k, l.getD k []), ?_, ?_, ?_⟩
  · apply List.ext_getElem
    · simp
    · intro i h1 h2
      simp [h2]
  · intro x hx
    simp only [List.mem_map, List.mem_range] at hx
    obtain ⟨k, hk, rfl⟩ := hx
    have := hf k hk
    simp only [List.getD_eq_getElem?_getD, List.getElem?_eq_getElem hk, Option.getD_some]
    exact ⟨this.1, this.2.1⟩
  · refine ⟨a, cap, by simpa using hv, by simpa using h1, h2, fun k hk => ?_⟩
    have hk' : k < l.length := by simpa using hk
    obtain ⟨_, r2, b, off, r3, r4, r5⟩ := hf k hk'
    exact ⟨f k, b, off, by simp [RW], r2, r3, r4, r5⟩

/-- what a round keeps: all cells but those of some blocks -/
def KeepsBut (bad : Nat → Prop) (W W' : World) : Prop := W.heap.size ≤ W'.heap.size ∧ ∀ k o, ¬ bad k → W.heap[k]? = some o → o.isCells = true → W'.heap[k]? = some o
theorem KeepsBut.refl (bad : Nat → Prop) (W : World) : KeepsBut bad W W := ⟨Nat.le_refl _, fun _ _ _ h _ => h⟩
theorem KeepsBut.trans {bad : Nat → Prop} {A B C : World} (h : KeepsBut bad A B) (k : KeepsBut bad B C) : KeepsBut bad A C := ⟨Nat.le_trans h.1 k.1, fun i o hb hi ho => k.2 i o hb (h.2 i o hb hi ho) ho⟩
theorem KeepsBut.putObj {bad : Nat → Prop} (W : World) (l : Nat) (o o' : Obj) (hl : W.heap[l]? = some o) (hc : o.isCells = false) : KeepsBut bad W (W.putObj l o') :=
  ⟨by simp, fun k x _ hk hx => by
    by_cases e : k = l
    · subst e; rw [hl] at hk; cases hk; rw [hc] at hx; cases hx
    · exact (World.putObj_heap_other e).trans hk⟩
theorem KeepsBut.cell {bad : Nat → Prop} {W W' : World} (h : KeepsBut bad W W') {p : Addr} {v : Value} (hb : ¬ bad p.block) (hc : W.cell? p = some v) : W'.cell? p = some v := by
  obtain ⟨o, ho, hoc⟩ := cells_of_cell hc
  exact (World.cell?_of_block ((h.2 _ _ hb ho hoc).trans ho.symm)).trans hc
theorem KeepsBut.ext {bad : Nat → Prop} {W W' : World} (h : Ext W W') : KeepsBut bad W W' := ⟨h.size, fun k o _ hk _ => (h.block k (Array.getElem?_eq_some_iff.1 hk).1).trans hk⟩

end Go.Proofs.Ytjifihfkoflbiaa
