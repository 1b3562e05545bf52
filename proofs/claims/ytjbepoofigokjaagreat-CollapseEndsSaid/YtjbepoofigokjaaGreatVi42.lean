/-
  Part 42 of the texts that the claims of this seat lean on: walks of the program's functions by contracts over symbolic frames, and plain laws of what they compute. No condition.
-/
import Derived.Test.YtjbepoofigokjaaGreatVi25
import Derived.Test.YtjbepoofigokjaaGreatVi41
set_option linter.unusedVariables false
set_option linter.unusedSimpArgs false
set_option linter.unusedSectionVars false
namespace Go.Proofs.YtjbepoofigokjaaGreat
open Go.ChangeShapes Go.WideShapes Go.ChangeAt Go.RowKit
set_option maxRecDepth 100000
section
variable {H : Type} {enc : TypeId × Value → H}
theorem cellsK : Tryz.prog.cellsOf 36 = 2 := by kernel_rfl
theorem open_K' {w : World} {r : Reach} {b0 : Nat} {v : Value} {d : DataW H} {ps : List MemPlace} (hv : Value.okWide Tryz.prog w r b0 36 v) (h : DataW.Trod enc Tryz.prog w 0 (fun _ => true) true 36 v d ps) : ∃ x, (dS Col x).rd anyB w v := by
  obtain ⟨fuel, h⟩ := h
  obtain ⟨cs, rfl, hcs⟩ := okWide_struct Tryz.underlying36 hv
  rw [cellsK] at hcs
  obtain ⟨u, u', rfl⟩ : ∃ u u', cs = #[u, u'] := by
    obtain ⟨l⟩ := cs
    match l, hcs with
    | [u, u'], _ => exact ⟨u, u', rfl⟩
  obtain ⟨y0, y1, n, hy, hl, h0, h1⟩ := trod_struct2 Tryz.underlying36 h
  have h0' : DataW.trod enc Tryz.prog w 0 (fun _ => true) true n 34 [u] = some y0 := by
    simpa [Value.cells, cellsS] using h0
  have h1' : DataW.trod enc Tryz.prog w 0 (fun _ => true) true n 34 [u'] = some y1 := by
    simpa [Value.cells, cellsS] using h1
  obtain ⟨xs, hx⟩ := open_V h0'
  obtain ⟨ys, hy⟩ := open_V h1'
  refine ⟨(xs, ys), u, u', rfl, ?_, ?_, hx, hy⟩
  · obtain ⟨a, c, hu, _⟩ := hx
    rw [hu]; rfl
  · obtain ⟨a, c, hu, _⟩ := hy
    rw [hu]; rfl
theorem open_L {w : World} {fuel : Nat} {v : Value} {x : DataW H × List MemPlace} (h : DataW.trod enc Tryz.prog w 0 (fun _ => true) true fuel 27 [v] = some x) :
    ∃ xs, Cols anyB w v xs := by
  rcases Deep.open_slice_pairs Tryz.underlying27 Tryz.underlying36 cellsK rfl rfl cellsS cellsS h with ⟨hc, _⟩ | ⟨a, len, cap, m, n, V0, V1, D0, D1, P0, P1, hc, _, hl, hm, hmm, _, hx⟩
  · obtain rfl : v = .slice none 0 0 := by simpa using hc
    exact ⟨[], ArrK.nil' (by decide)⟩
  · obtain rfl : v = .slice (some a) len cap := by simpa using hc
    simp only [if_true] at hmm
    subst hmm
    have hz : ∀ i, ∃ p : Cl, i < m → Verts anyB w (V0 i) p.1 ∧ Verts anyB w (V1 i) p.2 := fun i => by
      by_cases hi : i < m
      · obtain ⟨_, _, h2, h3⟩ := hx i hi
        obtain ⟨p, hp⟩ := open_V h2
        obtain ⟨q, hq⟩ := open_V h3
        exact ⟨(p, q), fun _ => ⟨hp, hq⟩⟩
      · exact ⟨([], []), fun h => absurd h hi⟩
    obtain ⟨z, hz⟩ := Classical.axiomOfChoice hz
    have hlen : ((List.range len).map z).length = len := by simp
    refine ⟨(List.range len).map z, some a, m, by rw [hlen], by rw [hlen]; exact hl, hm, by decide, fun k hk => ?_⟩
    rw [hlen] at hk
    obtain ⟨h0, h1, _⟩ := hx k (by omega)
    have hs := World.cell?_spot (hx 0 (by omega)).1
    obtain ⟨b, off, sp⟩ := a
    obtain rfl : sp = none := by simpa [Addr.add] using hs
    obtain ⟨e0, e1⟩ := hz k (by omega)
    have o0 : (V0 k).oneCell' = true := by obtain ⟨a', c', hv', _⟩ := e0; rw [hv']; rfl
    have o1 : (V1 k).oneCell' = true := by obtain ⟨a', c', hv', _⟩ := e1; rw [hv']; rfl
    refine ⟨[V0 k, V1 k], b, off, ?_, rfl, fun c hc => ?_, rfl, trivial, fun j c hc => ?_⟩
    · rw [List.getElem_map, List.getElem_range]
      exact ⟨V0 k, V1 k, rfl, o0, o1, e0, e1⟩
    · simp only [List.mem_cons, List.not_mem_nil, or_false] at hc
      rcases hc with rfl | rfl <;> assumption
    rw [Addr.add_lit] at h0 h1
    match j, hc with
    | 0, hc => cases hc; rw [Nat.add_zero]; exact h0
    | 1, hc => cases hc; rw [Nat.add_assoc]; exact h1
theorem open_L' {w : World} {r : Reach} {b0 : Nat} {v : Value} {d : DataW H} {ps : List MemPlace} (hv : Value.okWide Tryz.prog w r b0 27 v) (h : DataW.Trod enc Tryz.prog w 0 (fun _ => true) true 27 v d ps) : ∃ xs, (dS Cols xs).rd anyB w v := by
  obtain ⟨fuel, h⟩ := h
  obtain ⟨a, len, cap, rfl⟩ := okWide_slice Tryz.underlying27 hv
  exact open_L h
end
end Go.Proofs.YtjbepoofigokjaaGreat
