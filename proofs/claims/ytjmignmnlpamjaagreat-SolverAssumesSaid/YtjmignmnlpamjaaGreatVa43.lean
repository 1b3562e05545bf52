/- Part 43: walks by contracts, and plain laws. -/
import Derived.Deep.Matrix
import Derived.Lib.SmallJoins
import Derived.Test.YtjmignmnlpamjaaGreatRows
import Derived.Test.YtjmignmnlpamjaaGreatVa22
set_option linter.unusedVariables false
set_option linter.unusedSimpArgs false
set_option linter.unusedSectionVars false
set_option maxRecDepth 100000
set_option maxHeartbeats 4000000
namespace Go.Proofs.YtjmignmnlpamjaaGreat
section
open Go.ChangeShapes Go.WideShapes Go.ChangeAt Go.RowKit

theorem own : ownKnob Tryz.prog.godebug = none := by kernel_rfl
theorem ZNQ : laidOutB Tryz.prog = true := by kernel_rfl
theorem ZID : Tryz.prog.cellsOf 3 = 1 := by kernel_rfl
theorem ZLi : Tryz.prog.cellsOf 25 = 1 := by kernel_rfl

section
variable {H : Type} {enc : TypeId × Value -> H}

theorem ZEr {n : Int} (h : (Lit.int .i64 n).wf = true) : IR n := by
 simpa [Lit.wf, IntKind.min, IntKind.max, IntKind.signed, IntKind.bits, IR] using h

theorem ZJx {α : Type} {R : Rel α} {w : World} {a : Addr} {cap : Nat} {xs : List α} (hl : xs.length ≤ cap) (hm : cap ≤ maxLen) (h : ∀ k (hk : k < xs.length), ∃ u, R ZEZ w u xs[k] /\ u.oneCell' = true /\ w.cell? (a.add k) = some u) :
  Arr R ZEZ w (.slice (some a) xs.length cap) xs := by
 refine ⟨some a, cap, rfl, hl, hm, fun k hk => ?_⟩
 obtain ⟨u, h1, h2, h3⟩ := h k hk
 obtain ⟨u0, _, _, h0⟩ := h 0 (by omega)
 have hs := World.cell?_spot h0
 obtain ⟨b, off, sp⟩ := a
 obtain rfl : sp = none := by simpa [Addr.add] using hs
 exact ⟨u, b, off, h1, h2, rfl, trivial, by rw [Addr.add_lit] at h3; exact h3⟩

theorem ZOH {w : World} {fuel : Nat} {v : Value} {x : DataW H × List MemPlace} (h : DataW.trod enc Tryz.prog w 0 (fun _ => true) true fuel 25 [v] = some x) :
  ∃ zs, ZW ZEZ w v zs /\ ∀ z ∈ zs, IR z := by
 rcases open_ints Tryz.underlying25 Tryz.underlying3 ZID h with ⟨hc, _⟩ | ⟨a, len, cap, zs, hc, _, hl, hm, hz, _, hcell, hw⟩
 ·obtain rfl : v = .slice none 0 0 := by simpa using hc
  exact ⟨[], ZCP, fun z hz => by cases hz⟩
 ·obtain rfl : v = .slice (some a) len cap := by simpa using hc
  simp only [if_true] at hz
  have hlen : (zs.take len).length = len := by simp; omega
  refine ⟨zs.take len, ?_, fun z hz' => ZEr (hw z (List.mem_of_mem_take hz'))⟩
  have := ZJx (R := RI) (w := w) (a := a) (cap := cap) (xs := zs.take len) (by omega) hm (fun k hk => ⟨_, rfl, rfl, by
   rw [hcell k (by omega)]
   rw [List.getElem_take, List.getD_eq_getElem?_getD, List.getElem?_eq_getElem (by omega)]; rfl⟩)
  rw [hlen] at this
  exact this
theorem ZNc {w : World} {r : Reach} {b0 : Nat} {v : Value} {d : DataW H} {ps : List MemPlace} (hv : Value.okWide Tryz.prog w r b0 25 v) (h : DataW.Trod enc Tryz.prog w 0 (fun _ => true) true 25 v d ps) : ∃ zs, ZW ZEZ w v zs /\ ∀ z ∈ zs, IR z := by
 obtain ⟨fuel, h⟩ := h
 obtain ⟨a, len, cap, rfl⟩ := okWide_slice Tryz.underlying25 hv
 exact ZOH h

theorem ZMh {w : World} {fuel : Nat} {v : Value} {x : DataW H × List MemPlace} (h : DataW.trod enc Tryz.prog w 0 (fun _ => true) true fuel 22 [v] = some x) :
  ∃ l, Rows ZEZ w v l /\ IRR l := by
 rcases Deep.open_int_rows Tryz.underlying22 Tryz.underlying25 Tryz.underlying3 ZLi ZID h with ⟨hc, _⟩ | ⟨a, len, cap, A, L, C, Z, hc, _, hl, hm, _, hr⟩
 ·obtain rfl : v = .slice none 0 0 := by simpa using hc
  exact ⟨[], ZCP, fun z hz => by cases hz⟩
 ·obtain rfl : v = .slice (some a) len cap := by simpa using hc
  have hlen : ((List.range len).map fun r => (Z r).take (L r)).length = len := by simp
  refine ⟨(List.range len).map fun r => (Z r).take (L r), ?_, ?_⟩
  ·have := ZJx (R := Arr RI) (w := w) (a := a) (cap := cap) (xs := (List.range len).map fun r => (Z r).take (L r)) (by omega) hm (fun k hk => by
    rw [hlen] at hk
    obtain ⟨h1, h2, h3, h4, h5, h6, h7⟩ := hr k (by omega)
    refine ⟨_, ?_, rfl, h1⟩
    simp only [List.getElem_map, List.getElem_range]
    have hlk : ((Z k).take (L k)).length = L k := by simp; omega
    cases hA : A k with
    | none =>
     have hC := h6 hA
     have hz : (Z k).take (L k) = [] := List.eq_nil_of_length_eq_zero (by omega)
     rw [hz, show L k = 0 from by omega]
     exact Arr.nil none (C k) (by omega)
    | some a' =>
     have := ZJx (R := RI) (w := w) (a := a') (cap := C k) (xs := (Z k).take (L k)) (by omega) h3 (fun j hj => ⟨_, rfl, rfl, by
      rw [(h7 a' hA).2 j (by omega), List.getElem_take, List.getD_eq_getElem?_getD, List.getElem?_eq_getElem (by omega)]; rfl⟩)
     rw [hlk] at this
     exact this)
   rw [hlen] at this
   exact this
  ·intro c hc x hx
   simp only [List.mem_map, List.mem_range] at hc
   obtain ⟨r, hr', rfl⟩ := hc
   obtain ⟨_, _, _, _, h5, _, _⟩ := hr r (by omega)
   exact ZEr (h5 x (List.mem_of_mem_take hx))
theorem ZNd {w : World} {r : Reach} {b0 : Nat} {v : Value} {d : DataW H} {ps : List MemPlace} (hv : Value.okWide Tryz.prog w r b0 22 v) (h : DataW.Trod enc Tryz.prog w 0 (fun _ => true) true 22 v d ps) : ∃ l, Rows ZEZ w v l /\ IRR l := by
 obtain ⟨fuel, h⟩ := h
 obtain ⟨a, len, cap, rfl⟩ := okWide_slice Tryz.underlying22 hv
 exact ZMh h

theorem ZOG {w : World} {r : Reach} {b0 : Nat} {v : Value} {d : DataW H} {ps : List MemPlace} (hv : Value.okWide Tryz.prog w r b0 24 v) (h : DataW.Trod enc Tryz.prog w 0 (fun _ => true) true 24 v d ps) :
  ∃ (n : Int) (u : Value) (l : List (List Int)), v = .agg #[.int .i64 n, u] /\ Rows ZEZ w u l /\ IRR l /\ IR n := by
 obtain ⟨v0, v1, y0, y1, m, rfl, _, _, h0, h1⟩ := Joins.open_agg2 Tryz.underlying24 (by kernel_rfl) (by kernel_rfl) hv h
 obtain ⟨l, hl, hr⟩ := ZMh h1
 obtain ⟨n, hn, _, hw⟩ := DataW.trod_int Tryz.underlying3 h0
 obtain rfl : v0 = .int .i64 n := by simpa using hn
 exact ⟨n, v1, l, rfl, hl, hr, ZEr hw⟩
theorem open_N' {w : World} {r : Reach} {b0 : Nat} {v : Value} {d : DataW H} {ps : List MemPlace} (hv : Value.okWide Tryz.prog w r b0 3 v) (h : DataW.Trod enc Tryz.prog w 0 (fun _ => true) true 3 v d ps) : ∃ n : Int, (dI n).rd ZEZ w v /\ -9223372036854775808 ≤ n /\ n ≤ 9223372036854775807 := by
 obtain ⟨n, rfl, _, _, hw⟩ := open_int Tryz.underlying3 hv h
 exact ⟨n, rfl, by simpa [Lit.wf, IntKind.min, IntKind.max, IntKind.signed, IntKind.bits] using hw⟩
theorem open_Q' {w : World} {r : Reach} {b0 : Nat} {v : Value} {d : DataW H} {ps : List MemPlace} (hv : Value.okWide Tryz.prog w r b0 24 v) (h : DataW.Trod enc Tryz.prog w 0 (fun _ => true) true 24 v d ps) : ∃ x : Int × List (List Int), (dS Cls x).rd ZEZ w v /\ IRR x.2 /\ IR x.1 := by
 obtain ⟨n, u, l, rfl, h1, h2, h3⟩ := ZOG hv h
 refine ⟨(n, l), ⟨_, _, rfl, rfl, ?_, rfl, h1⟩, h2, h3⟩
 obtain ⟨a, c, rfl, _⟩ := h1
 rfl
theorem open_Z' {w : World} {r : Reach} {b0 : Nat} {v : Value} {d : DataW H} {ps : List MemPlace} (hv : Value.okWide Tryz.prog w r b0 25 v) (h : DataW.Trod enc Tryz.prog w 0 (fun _ => true) true 25 v d ps) : ∃ x, (dS ZW x).rd ZEZ w v /\ ∀ z ∈ x, IR z := ZNc hv h
theorem open_RR' {w : World} {r : Reach} {b0 : Nat} {v : Value} {d : DataW H} {ps : List MemPlace} (hv : Value.okWide Tryz.prog w r b0 22 v) (h : DataW.Trod enc Tryz.prog w 0 (fun _ => true) true 22 v d ps) : ∃ x, (dS Rows x).rd ZEZ w v /\ IRR x := ZNd hv h
end

section
variable {H : Type} {enc : TypeId × Value -> H}

theorem ZGZ {W W' : World} (hE : Ext W W') : ∀ {ts : List TypeId} {vs : List Value} {ds : List (DataW H)} {ps : List MemPlace}, (∀ t ∈ ts, Tryz.prog.readableRec t = true /\ t < Tryz.prog.types.size) -> (∀ p ∈ ps, p.block < W.heap.size) ->
  DataW.TrodAll enc Tryz.prog W 0 (fun _ => true) true ts vs ds ps -> DataW.TrodAll enc Tryz.prog W' 0 (fun b => decide (b < W.heap.size)) true ts vs ds ps
 | [], _, _, _, _, _, h => by
  obtain ⟨rfl, rfl, rfl⟩ := trodAll_nil h
  exact trodAll_mk0
 | t :: ts, _, _, _, ht, hlt, h => by
  obtain ⟨v, vs1, d, ds1, a, b, rfl, rfl, rfl, h1, h2⟩ := trodAll_cons h
  exact trodAll_cons_mk (Below.trod ZNQ (ht t (by simp)).1 (ht t (by simp)).2 h1 hE (fun x hx => hlt x (by simp [hx]))) (ZGZ hE (fun t' h' => ht t' (by simp [h'])) (fun p hp => hlt p (by simp [hp])) h2)

theorem post_law {f : Func} {s : ChangeSpec} {W W' : World} {args : Array Value} {ds gs : List (DataW H)} {before : List MemPlace} (hW : DataW.Whole enc Tryz.prog f.params.toList s.vars false W args.toList ds gs before) (hvars : s.vars = [])
  (hr : f.resultTypes = #[4]) (hs : s.fn H ds = { results := [.lit (.bool true)], args := ds }) (ht : ∀ t ∈ f.params.toList, Tryz.prog.readableRec t = true /\ t < Tryz.prog.types.size) (hE : Ext W W') :
  s.post enc Tryz.prog f false true false false W args (.bool true) W' := by
 have hlt := hW.lt
 have hW' := hW
 obtain ⟨p, q, hA, hV, rfl, hfz, hnd⟩ := hW
 rw [hvars] at hV
 obtain ⟨rfl, rfl⟩ := trodVars_none hV
 refine ⟨ds, [], p ++ [], [], p, [], hW', ?_, ?_, ?_, hE.frame _, fun h => by cases h⟩
 ·rw [hr, List.append_nil, hs]
  exact trodAll_mk1 (shut_bool Tryz.underlying4 true)
 ·rw [List.append_nil, hs]
  exact ZGZ hE ht (fun x hx => hlt x (by simp [hx])) hA
 ·rw [hvars, List.append_nil, hs]
  rfl
theorem fn_law {f : FuncId} {ds : List Dat} (hF : Fn Tryz.prog f ds (dB true)) {W : World} {vs : List Value} (hl : vs.length = ds.length) (h : ∀ (i : Nat) (d : Dat), ds[i]? = some d -> d.rd ZEZ W (vs.getD i undef)) :
  Calls Tryz.prog f vs.toArray W fun e W' => e = .returned (.bool true) /\ Ext W W' :=
 (hF.out ZEZ W vs hl h).mono fun _ _ ⟨_, h1, h2, h3⟩ => by cases (h3 : _ = _); exact ⟨h1, h2⟩
end
end
end Go.Proofs.YtjmignmnlpamjaaGreat
