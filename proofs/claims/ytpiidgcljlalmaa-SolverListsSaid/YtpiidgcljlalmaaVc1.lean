/- Part 1: walks by contracts, and plain laws. -/
import Derived.Deep.Matrix
import Derived.Lib.SmallJoins
import Derived.Test.YtpiidgcljlalmaaRows
import Derived.Test.YtpiidgcljlalmaaVb2
set_option linter.unusedVariables false
set_option linter.unusedSimpArgs false
set_option linter.unusedSectionVars false
namespace Go.Proofs.Ytpiidgcljlalmaa
open Go.ChangeShapes Go.WideShapes Go.ChangeAt Go.RowKit
set_option maxRecDepth 100000

theorem own : ownKnob Try.prog.godebug = none := by kernel_rfl
theorem laidOut : laidOutB Try.prog = true := by kernel_rfl
theorem cellsOfI : Try.prog.cellsOf 3 = 1 := by kernel_rfl
theorem cellsOfR : Try.prog.cellsOf 25 = 1 := by kernel_rfl

section
variable {H : Type} {enc : TypeId × Value → H}

theorem irr_of_wf {n : Int} (h : (Lit.int .i64 n).wf = true) : IR n := by
  simpa [Lit.wf, IntKind.min, IntKind.max, IntKind.signed, IntKind.bits, IR] using h

theorem arr_at {α : Type} {R : Rel α} {w : World} {a : Addr} {cap : Nat} {xs : List α} (hl : xs.length ≤ cap) (hm : cap ≤ maxLen) (h : ∀ k (hk : k < xs.length), ∃ u, R anyB w u xs[k] ∧ u.oneCell' = true ∧ w.cell? (a.add k) = some u) :
    Arr R anyB w (.slice (some a) xs.length cap) xs := by
  refine ⟨some a, cap, rfl, hl, hm, fun k hk => ?_⟩
  obtain ⟨u, h1, h2, h3⟩ := h k hk
  obtain ⟨u0, _, _, h0⟩ := h 0 (by omega)
  have hs := World.cell?_spot h0
  obtain ⟨b, off, sp⟩ := a
  obtain rfl : sp = none := by simpa [Addr.add] using hs
  exact ⟨u, b, off, h1, h2, rfl, trivial, by rw [Addr.add_lit] at h3; exact h3⟩

theorem open_I {w : World} {fuel : Nat} {v : Value} {x : DataW H × List MemPlace} (h : DataW.trod enc Try.prog w 0 (fun _ => true) true fuel 25 [v] = some x) :
    ∃ zs, Ints anyB w v zs ∧ ∀ z ∈ zs, IR z := by
  rcases open_ints Try.underlying25 Try.underlying3 cellsOfI h with ⟨hc, _⟩ | ⟨a, len, cap, zs, hc, _, hl, hm, hz, _, hcell, hw⟩
  · obtain rfl : v = .slice none 0 0 := by simpa using hc
    exact ⟨[], Arr.nil', fun z hz => by cases hz⟩
  · obtain rfl : v = .slice (some a) len cap := by simpa using hc
    simp only [if_true] at hz
    have hlen : (zs.take len).length = len := by simp; omega
    refine ⟨zs.take len, ?_, fun z hz' => irr_of_wf (hw z (List.mem_of_mem_take hz'))⟩
    have := arr_at (R := RI) (w := w) (a := a) (cap := cap) (xs := zs.take len) (by omega) hm (fun k hk => ⟨_, rfl, rfl, by
      rw [hcell k (by omega)]
      rw [List.getElem_take, List.getD_eq_getElem?_getD, List.getElem?_eq_getElem (by omega)]; rfl⟩)
    rw [hlen] at this
    exact this
theorem open_I' {w : World} {r : Reach} {b0 : Nat} {v : Value} {d : DataW H} {ps : List MemPlace} (hv : Value.okWide Try.prog w r b0 25 v) (h : DataW.Trod enc Try.prog w 0 (fun _ => true) true 25 v d ps) : ∃ zs, Ints anyB w v zs ∧ ∀ z ∈ zs, IR z := by
  obtain ⟨fuel, h⟩ := h
  obtain ⟨a, len, cap, rfl⟩ := okWide_slice Try.underlying25 hv
  exact open_I h

theorem open_R {w : World} {fuel : Nat} {v : Value} {x : DataW H × List MemPlace} (h : DataW.trod enc Try.prog w 0 (fun _ => true) true fuel 22 [v] = some x) :
    ∃ l, Rows anyB w v l ∧ IRR l := by
  rcases Deep.open_int_rows Try.underlying22 Try.underlying25 Try.underlying3 cellsOfR cellsOfI h with ⟨hc, _⟩ | ⟨a, len, cap, A, L, C, Z, hc, _, hl, hm, _, hr⟩
  · obtain rfl : v = .slice none 0 0 := by simpa using hc
    exact ⟨[], Arr.nil', fun z hz => by cases hz⟩
  · obtain rfl : v = .slice (some a) len cap := by simpa using hc
    have hlen : ((List.range len).map fun r => (Z r).take (L r)).length = len := by simp
    refine ⟨(List.range len).map fun r => (Z r).take (L r), ?_, ?_⟩
    · have := arr_at (R := Arr RI) (w := w) (a := a) (cap := cap) (xs := (List.range len).map fun r => (Z r).take (L r)) (by omega) hm (fun k hk => by
        rw [hlen] at hk
        obtain ⟨h1, h2, h3, h4, h5, h6, h7⟩ := hr k (by omega)
        refine ⟨_, ?_, rfl, h1⟩
        simp only [List.getElem_map, List.getElem_range]
        have hlk : ((Z k).take (L k)).length = L k := by simp; omega
        cases hA : A k with
        | none =>
          have hC := h6 hA
          have hz : (Z k).take (L k) = [] := List.eq_nil_of_length_eq_zero (by omega)
          rw [hz, show L k = 0 from by omega]
          exact Arr.nil none (C k) (by omega)
        | some a' =>
          have := arr_at (R := RI) (w := w) (a := a') (cap := C k) (xs := (Z k).take (L k)) (by omega) h3 (fun j hj => ⟨_, rfl, rfl, by
            rw [(h7 a' hA).2 j (by omega), List.getElem_take, List.getD_eq_getElem?_getD, List.getElem?_eq_getElem (by omega)]; rfl⟩)
          rw [hlk] at this
          exact this)
      rw [hlen] at this
      exact this
    · intro c hc x hx
      simp only [List.mem_map, List.mem_range] at hc
      obtain ⟨r, hr', rfl⟩ := hc
      obtain ⟨_, _, _, _, h5, _, _⟩ := hr r (by omega)
      exact irr_of_wf (h5 x (List.mem_of_mem_take hx))
theorem open_R' {w : World} {r : Reach} {b0 : Nat} {v : Value} {d : DataW H} {ps : List MemPlace} (hv : Value.okWide Try.prog w r b0 22 v) (h : DataW.Trod enc Try.prog w 0 (fun _ => true) true 22 v d ps) : ∃ l, Rows anyB w v l ∧ IRR l := by
  obtain ⟨fuel, h⟩ := h
  obtain ⟨a, len, cap, rfl⟩ := okWide_slice Try.underlying22 hv
  exact open_R h

theorem open_C {w : World} {r : Reach} {b0 : Nat} {v : Value} {d : DataW H} {ps : List MemPlace} (hv : Value.okWide Try.prog w r b0 24 v) (h : DataW.Trod enc Try.prog w 0 (fun _ => true) true 24 v d ps) :
    ∃ (n : Int) (u : Value) (l : List (List Int)), v = .agg #[.int .i64 n, u] ∧ Rows anyB w u l ∧ IRR l ∧ IR n := by
  obtain ⟨v0, v1, y0, y1, m, rfl, _, _, h0, h1⟩ := Joins.open_agg2 Try.underlying24 (by kernel_rfl) (by kernel_rfl) hv h
  obtain ⟨l, hl, hr⟩ := open_R h1
  obtain ⟨n, hn, _, hw⟩ := DataW.trod_int Try.underlying3 h0
  obtain rfl : v0 = .int .i64 n := by simpa using hn
  exact ⟨n, v1, l, rfl, hl, hr, irr_of_wf hw⟩
theorem open_N' {w : World} {r : Reach} {b0 : Nat} {v : Value} {d : DataW H} {ps : List MemPlace} (hv : Value.okWide Try.prog w r b0 3 v) (h : DataW.Trod enc Try.prog w 0 (fun _ => true) true 3 v d ps) : ∃ n : Int, (dI n).rd anyB w v ∧ -9223372036854775808 ≤ n ∧ n ≤ 9223372036854775807 := by
  obtain ⟨n, rfl, _, _, hw⟩ := open_int Try.underlying3 hv h
  exact ⟨n, rfl, by simpa [Lit.wf, IntKind.min, IntKind.max, IntKind.signed, IntKind.bits] using hw⟩
theorem open_Q' {w : World} {r : Reach} {b0 : Nat} {v : Value} {d : DataW H} {ps : List MemPlace} (hv : Value.okWide Try.prog w r b0 24 v) (h : DataW.Trod enc Try.prog w 0 (fun _ => true) true 24 v d ps) : ∃ x : Int × List (List Int), (dS Cls x).rd anyB w v ∧ IRR x.2 ∧ IR x.1 := by
  obtain ⟨n, u, l, rfl, h1, h2, h3⟩ := open_C hv h
  refine ⟨(n, l), ⟨_, _, rfl, rfl, ?_, rfl, h1⟩, h2, h3⟩
  obtain ⟨a, c, rfl, _⟩ := h1
  rfl
theorem open_Z' {w : World} {r : Reach} {b0 : Nat} {v : Value} {d : DataW H} {ps : List MemPlace} (hv : Value.okWide Try.prog w r b0 25 v) (h : DataW.Trod enc Try.prog w 0 (fun _ => true) true 25 v d ps) : ∃ x, (dS Ints x).rd anyB w v ∧ ∀ z ∈ x, IR z := open_I' hv h
theorem open_RR' {w : World} {r : Reach} {b0 : Nat} {v : Value} {d : DataW H} {ps : List MemPlace} (hv : Value.okWide Try.prog w r b0 22 v) (h : DataW.Trod enc Try.prog w 0 (fun _ => true) true 22 v d ps) : ∃ x, (dS Rows x).rd anyB w v ∧ IRR x := open_R' hv h
end

section
variable {H : Type} {enc : TypeId × Value → H}

theorem args_kept {W W' : World} (hE : Ext W W') : ∀ {ts : List TypeId} {vs : List Value} {ds : List (DataW H)} {ps : List MemPlace}, (∀ t ∈ ts, Try.prog.readableRec t = true ∧ t < Try.prog.types.size) → (∀ p ∈ ps, p.block < W.heap.size) →
    DataW.TrodAll enc Try.prog W 0 (fun _ => true) true ts vs ds ps → DataW.TrodAll enc Try.prog W' 0 (fun b => decide (b < W.heap.size)) true ts vs ds ps
  | [], _, _, _, _, _, h => by
    obtain ⟨rfl, rfl, rfl⟩ := trodAll_nil h
    exact trodAll_mk0
  | t :: ts, _, _, _, ht, hlt, h => by
    obtain ⟨v, vs1, d, ds1, a, b, rfl, rfl, rfl, h1, h2⟩ := trodAll_cons h
    exact trodAll_cons_mk (Below.trod laidOut (ht t (by simp)).1 (ht t (by simp)).2 h1 hE (fun x hx => hlt x (by simp [hx]))) (args_kept hE (fun t' h' => ht t' (by simp [h'])) (fun p hp => hlt p (by simp [hp])) h2)

theorem post_law {f : Func} {s : ChangeSpec} {W W' : World} {args : Array Value} {ds gs : List (DataW H)} {before : List MemPlace} (hW : DataW.Whole enc Try.prog f.params.toList s.vars false W args.toList ds gs before) (hvars : s.vars = [])
    (hr : f.resultTypes = #[4]) (hs : s.fn H ds = { results := [.lit (.bool true)], args := ds }) (ht : ∀ t ∈ f.params.toList, Try.prog.readableRec t = true ∧ t < Try.prog.types.size) (hE : Ext W W') :
    s.post enc Try.prog f false true false false W args (.bool true) W' := by
  have hlt := hW.lt
  have hW' := hW
  obtain ⟨p, q, hA, hV, rfl, hfz, hnd⟩ := hW
  rw [hvars] at hV
  obtain ⟨rfl, rfl⟩ := trodVars_none hV
  refine ⟨ds, [], p ++ [], [], p, [], hW', ?_, ?_, ?_, hE.frame _, fun h => by cases h⟩
  · rw [hr, List.append_nil, hs]
    exact trodAll_mk1 (shut_bool Try.underlying4 true)
  · rw [List.append_nil, hs]
    exact args_kept hE ht (fun x hx => hlt x (by simp [hx])) hA
  · rw [hvars, List.append_nil, hs]
    rfl
theorem fn_law {f : FuncId} {ds : List Dat} (hF : Fn Try.prog f ds (dB true)) {W : World} {vs : List Value} (hl : vs.length = ds.length) (h : ∀ (i : Nat) (d : Dat), ds[i]? = some d → d.rd anyB W (vs.getD i undef)) :
    Calls Try.prog f vs.toArray W fun e W' => e = .returned (.bool true) ∧ Ext W W' :=
  (hF.out anyB W vs hl h).mono fun _ _ ⟨_, h1, h2, h3⟩ => by cases (h3 : _ = _); exact ⟨h1, h2⟩
end
end Go.Proofs.Ytpiidgcljlalmaa
