/-
  Rows of ints that a call writes: what they read as, and the walk's arms for a store into them.
-/
import Derived.Test.YtjifihfkoflbiaaSng42
import Derived.Test.YtjifihfkoflbiaaSpecP
import Derived.RangeFuncBox
import Derived.Laws.CopyRow
namespace Go.Proofs.Ytjifihfkoflbiaa
open Go.RowKit

/-- block b is a row of ints -/
def IRow (w : World) (b : Nat) (vals : List Int) : Prop := w.heap[b]? = some (.cells (vals.map (Value.int .i64)).toArray 3 (0, 0))

theorem IRow.cell {w : World} {b : Nat} {vals : List Int} (h : IRow w b vals) {k : Nat} (hk : k < vals.length) : w.cell? ⟨b, k, none⟩ = some (.int .i64 vals[k]) := by
  simp [World.cell?, show w.heap[b]? = _ from h, hk]
theorem IRow.frozen {w : World} {b : Nat} {vals : List Int} (h : IRow w b vals) (k : Nat) : w.frozen? ⟨b, k, none⟩ = false := by
  simp [World.frozen?, show w.heap[b]? = _ from h]
theorem IRow.arr {w : World} {b : Nat} {vals : List Int} {cap : Nat} (h : IRow w b vals) (h1 : vals.length ≤ cap) (h2 : cap ≤ maxLen) : Arr RI (fun k => k = b) w (.slice (some ⟨b, 0, none⟩) vals.length cap) vals :=
  ⟨_, _, rfl, h1, h2, fun k hk => ⟨_, b, 0, rfl, rfl, rfl, rfl, by rw [Nat.zero_add]; exact h.cell hk⟩⟩
theorem IRow.set {w : World} {b : Nat} {vals : List Int} (h : IRow w b vals) (k : Nat) (n : Int) : IRow (w.setCell ⟨b, k, none⟩ (.int .i64 n)) b (vals.set k n) := by
  have hg := show w.heap[b]? = _ from h
  show _ = _
  rw [setCell_eq_setRow w b k _ _ _ _ hg, setRow_heap w b _ _ _ _ hg]
  congr 2
  apply Array.ext'
  simp [List.map_set]
theorem IRow.other {w : World} {b : Nat} {vals : List Int} (h : IRow w b vals) {a : Addr} (ha : a.block ≠ b) (v : Value) : IRow (w.setCell a v) b vals :=
  (Below.heap_setCell w a v b (fun e => ha e.symm)).trans h
theorem IRow.below {w w' : World} {b B : Nat} {vals : List Int} (h : IRow w b vals) (e : Below B w w') (hb : b < B) : IRow w' b vals := (e.block b hb).trans h
theorem IRow.lt {w : World} {b : Nat} {vals : List Int} (h : IRow w b vals) : b < w.heap.size := (Array.getElem?_eq_some_iff.1 (show w.heap[b]? = _ from h)).1

section
variable {P : Program} {ops : Array Oper} {rest : List Oper} {o : Oper} {a : Act} {Q : Exit → Act → World → Prop} {w : World} {t e : TypeId} {z : Value}

theorem wpList_skip (hg : o.guard = none) {w' : World} (h : (execOp a.eval o).run P w = .ok .skip w') (hk : wpList P ops Q rest (a.put o.dst undef) w') : wpList P ops Q (o :: rest) a w :=
  wpList_plain hg fun K hK => by unfold Oper.wp; rw [h]; exact hK _ _ hk

/-- v[j] = n -/
theorem w_setI {x i y : Operand} {d : Tmp} {ty1 ty2 : TypeId} {ps1 ps2 : String} {af1 af2 : Array Edge} (E : ElT P t e 1 z 8 false)
    (hdl : ∀ p : Value, (a.put (some d) p).eval (.tmp d) = p) {b cap : Nat} {vals : List Int} (hx : a.eval x = .slice (some ⟨b, 0, none⟩) vals.length cap) (k : Nat) (j : Int) (hj : j = (k : Int)) (hi : a.eval i = .int .i64 j)
    {n : Int} (hy : ∀ p : Value, (a.put (some d) p).eval y = .int .i64 n) (hrow : IRow w b vals) (hk : k < vals.length)
    (h : ∀ p : Value, IRow (w.setCell ⟨b, k, none⟩ (.int .i64 n)) b (vals.set k n) → wpList P ops Q rest (a.put (some d) p) (w.setCell ⟨b, k, none⟩ (.int .i64 n))) :
    wpList P ops Q ({ dst := some d, op := .indexAddr t x i, type := ty1, pos := ps1, after := af1, guard := none } :: { dst := none, op := .store e (.tmp d) y, type := ty2, pos := ps2, after := af2, guard := none } :: rest) a w := by
  have hix := run_indexAt (w := w) E b 0 vals.length cap k .i64 hk
  rw [Nat.mul_one, Nat.zero_add] at hix
  refine wpList_value rfl (v := .pointer (some ⟨b, k, none⟩)) (w' := w) ?_ ?_
  · unfold execOp
    simp only [hx, hi, hj, Sem.run_bind, hix, Result.andThen_ok, Sem.run_pure]
  · refine wpList_skip rfl (w' := w.setCell ⟨b, k, none⟩ (.int .i64 n)) ?_ (h _ (hrow.set k n))
    have he := hdl (.pointer (some ⟨b, k, none⟩))
    have hy' := hy (.pointer (some ⟨b, k, none⟩))
    have hc := hrow.cell hk
    have hf := hrow.frozen k
    unfold execOp
    simp only [he, hy', Instr.storeAt, Instr.sureAddr, storeVar, Sem.run_bind, E.size, Result.andThen_ok, Sem.run_pure]
    have hst : (store ((⟨b, k, none⟩ : Addr).add 0) (.int .i64 n)).run P w = .ok () (w.setCell ⟨b, k, none⟩ (.int .i64 n)) := by
      rw [show ((⟨b, k, none⟩ : Addr).add 0) = ⟨b, k, none⟩ from rfl, run_store_int]
      simp [stored, hc, hf]
    simp [Value.cells, storeCells, hst]
end

/-- the prover: a struct at bp of one slice, whose cells are block b -/
def PS (bp b : Nat) (w : World) (vals : List Int) : Prop := bp ≠ b ∧ vals.length ≤ maxLen ∧ w.cell? ⟨bp, 0, none⟩ = some (.slice (some ⟨b, 0, none⟩) vals.length vals.length) ∧ IRow w b vals


set_option maxHeartbeats 1000000 in
theorem value_c {bp b : Nat} {w : World} {vals : List Int} {x : Int} (h : PS bp b w vals) (hi : x.natAbs < vals.length) (hv : ∀ v ∈ vals, -1 ≤ v ∧ v ≤ 1) :
    Calls Try.prog 71 #[.pointer (some ⟨bp, 0, none⟩), .int .i64 x] w fun e w' => e = .returned (.int .i64 (valI vals x)) ∧ w' = w := by
  obtain ⟨hne, hm, hc, hrow⟩ := h
  have harr := hrow.arr (Nat.le_refl _) hm
  have hle := harr.le
  by_cases hx : x < 0
  · have hk : (-x).toNat < vals.length := by omega
    have Hj : Hid (-x = (((-x).toNat : Nat) : Int)) := by show _ = _; omega
    obtain ⟨hv1, hv2⟩ := hv _ (List.getElem_mem hk)
    have hxr : -9223372036854775807 ≤ x := by omega
    have hres : Hid (valI vals x = -vals[(-x).toNat]) := by show _ = _; unfold valI; rw [if_pos hx, List.getD_eq_getElem?_getD, List.getElem?_eq_getElem hk]; rfl
    clear hv hi
    go_enter Try.func71, Try.ntmps71
    go_wp2_with (first | (((with_reducible refine w_ixJ elI ?_ ?_ ?_ (-x) Hj.out ?_ ?_ harr hk ?_); (· rfl); (· exact fun _ => rfl); (· exact fun _ => rfl); (· rfl); (· rfl); intro _ y hyy h1y; simp only [Act.put, List.setIfInBounds_toArray, List.set_cons_succ, List.set_cons_zero]); cases (show y = .int .i64 vals[(-x).toNat] from hyy)))
    go_ret
    exact ⟨ret_i (by rw [hres.out]), rfl⟩
  · have hk : x.toNat < vals.length := by omega
    have Hj : Hid (x = ((x.toNat : Nat) : Int)) := by show _ = _; omega
    have hres : Hid (valI vals x = vals[x.toNat]) := by show _ = _; unfold valI; rw [if_neg hx, List.getD_eq_getElem?_getD, List.getElem?_eq_getElem hk]; rfl
    clear hv hi
    go_enter Try.func71, Try.ntmps71
    go_wp2_with (first | (((with_reducible refine w_ixJ elI ?_ ?_ ?_ x Hj.out ?_ ?_ harr hk ?_); (· rfl); (· exact fun _ => rfl); (· exact fun _ => rfl); (· rfl); (· rfl); intro _ y hyy h1y; simp only [Act.put, List.setIfInBounds_toArray, List.set_cons_succ, List.set_cons_zero]); cases (show y = .int .i64 vals[x.toNat] from hyy)))
    go_ret
    exact ⟨ret_i (by rw [hres.out]), rfl⟩

set_option maxHeartbeats 1000000 in
theorem assign_c {bp b : Nat} {w : World} {vals : List Int} {x : Int} (h : PS bp b w vals) (hi : x.natAbs < vals.length) :
    Calls Try.prog 63 #[.pointer (some ⟨bp, 0, none⟩), .int .i64 x] w fun e w' => (∃ v, e = .returned v) ∧ PS bp b w' (setI vals x) ∧ ∃ k u, w' = w.setCell ⟨b, k, none⟩ u := by
  obtain ⟨hne, hm, hc, hrow⟩ := h
  have hle : (vals.length : Int) ≤ 9223372036854775807 := by simp only [maxLen] at hm; omega
  by_cases hx : x < 0
  · have hk : (-x).toNat < vals.length := by omega
    have Hj : Hid (-x = (((-x).toNat : Nat) : Int)) := by show _ = _; omega
    have hxr : -9223372036854775807 ≤ x := by omega
    have hres : Hid (setI vals x = vals.set (-x).toNat (-1)) := by show _ = _; unfold setI; rw [if_pos hx]
    clear hi
    go_enter Try.func63, Try.ntmps63
    go_wp2_with (first | ((with_reducible refine w_setI (cap := vals.length) (n := -1) elI ?_ ?_ (-x).toNat (-x) Hj.out ?_ ?_ hrow hk ?_); (· exact fun _ => rfl); (· rfl); (· rfl); (· exact fun _ => rfl); intro _ hrow2; simp only [Act.put, List.setIfInBounds_toArray, List.set_cons_succ, List.set_cons_zero]))
    go_end0
    refine ⟨⟨_, rfl⟩, ?_, _, _, rfl⟩
    rw [hres.out]
    refine ⟨hne, by rw [List.length_set]; exact hm, ?_, hrow2⟩
    rw [List.length_set, World.cell?_setCell_other (h := fun e => hne (congrArg Addr.block e).symm)]
    exact hc
  · have hk : x.toNat < vals.length := by omega
    have Hj : Hid (x = ((x.toNat : Nat) : Int)) := by show _ = _; omega
    have hres : Hid (setI vals x = vals.set x.toNat 1) := by show _ = _; unfold setI; rw [if_neg hx]
    clear hi
    go_enter Try.func63, Try.ntmps63
    go_wp2_with (first | ((with_reducible refine w_setI (cap := vals.length) (n := 1) elI ?_ ?_ x.toNat x Hj.out ?_ ?_ hrow hk ?_); (· exact fun _ => rfl); (· rfl); (· rfl); (· exact fun _ => rfl); intro _ hrow2; simp only [Act.put, List.setIfInBounds_toArray, List.set_cons_succ, List.set_cons_zero]))
    go_end0
    refine ⟨⟨_, rfl⟩, ?_, _, _, rfl⟩
    rw [hres.out]
    refine ⟨hne, by rw [List.length_set]; exact hm, ?_, hrow2⟩
    rw [List.length_set, World.cell?_setCell_other (h := fun e => hne (congrArg Addr.block e).symm)]
    exact hc

theorem unitI_step {vals : List Int} {c : List Int} {k : Nat} {o : Int} (h : k < c.length) : unitI vals o (c.drop k) = if 0 < valI vals c[k] ∨ (valI vals c[k] = 0 ∧ o ≠ 0) then (0, false) else if valI vals c[k] = 0 then unitI vals c[k] (c.drop (k + 1)) else unitI vals o (c.drop (k + 1)) := by
  rw [List.drop_eq_getElem_cons h, unitI]

set_option maxHeartbeats 2000000 in
theorem unit_c {bp b : Nat} {w : World} {vals : List Int} {P : Nat → Prop} {v : Value} {c : List Int} (h : PS bp b w vals) (hc : Ints P w v c) (hi : ∀ x ∈ c, x.natAbs < vals.length) (hv : ∀ v ∈ vals, -1 ≤ v ∧ v ≤ 1) :
    Calls Try.prog 69 #[.pointer (some ⟨bp, 0, none⟩), v] w fun e w' => e = .returned (.tuple #[.int .i64 (unitI vals 0 c).1, .bool (unitI vals 0 c).2]) ∧ w' = w := by
  have hle := hc.le
  have HI := Lib.hid hi
  have HV := Lib.hid hv
  clear hi hv
  go_enter Try.func69, Try.ntmps69
  go_wp2_with ((with_reducible refine w_len elI.und ?_ ?_ hc.len ?_); (· rfl); (· rfl); simp only [Act.put, List.setIfInBounds_toArray, List.set_cons_succ, List.set_cons_zero])
  go_loop [6, 12] (fun o i => ∃ (k : Nat) (q : Int), k ≤ c.length ∧ i = .int .i64 k ∧ o = .int .i64 q ∧ Hid (unitI vals q (c.drop k) = unitI vals 0 c)) (fun _ i => c.length - (intOf i).toNat)
  case atStart => exact ⟨0, 0, Nat.zero_le _, rfl, rfl, rfl⟩
  case round =>
    obtain ⟨k, q, hk, rfl, rfl, hn⟩ := hrel
    by_cases hlt : k < c.length
    · have hst := Lib.hid (unitI_step (vals := vals) (o := q) hlt)
      have hin := Lib.hid (HI.out _ (List.getElem_mem hlt))
      by_cases h1 : 0 < valI vals c[k]
      · go_wp2_with (first | ((with_reducible refine w_ixI elI ?_ ?_ ?_ ?_ ?_ hc hlt ?_); (· rfl); (· exact fun _ => rfl); (· exact fun _ => rfl); (· rfl); (· rfl); intro _; simp only [Act.put, List.setIfInBounds_toArray, List.set_cons_succ, List.set_cons_zero]) | (go_at_call 71; refine (value_c h hin.out HV.out).mono ?_; rintro e w1 ⟨rfl, rfl⟩))
        go_ret2
        have e : unitI vals 0 c = (0, false) := by rw [← hn.out, hst.out, if_pos (.inl h1)]
        exact ⟨by rw [e]; rfl, rfl⟩
      · by_cases h2 : valI vals c[k] = 0
        · have hb2 : (valI vals c[k] == 0) = true := by simp [h2]
          by_cases h3 : q = 0
          · have hb3 : (q != 0) = false := by simp [h3]
            have H2 := Lib.hid h2
            have H3 := Lib.hid h3
            clear h2 h3
            go_wp2_with (first | ((with_reducible refine w_ixI elI ?_ ?_ ?_ ?_ ?_ hc hlt ?_); (· rfl); (· exact fun _ => rfl); (· exact fun _ => rfl); (· rfl); (· rfl); intro _; simp only [Act.put, List.setIfInBounds_toArray, List.set_cons_succ, List.set_cons_zero]) | (go_at_call 71; refine (value_c h hin.out HV.out).mono ?_; rintro e w1 ⟨rfl, rfl⟩))
            go_round
            case rel => exact ⟨k + 1, c[k], hlt, by go_num, rfl, by show _ = _; rw [← hn.out, hst.out, if_neg (by rintro (h | ⟨_, h⟩); omega; exact h H3.out), if_pos H2.out]⟩
            case measure => simp [intOf]; omega
          · have hb3 : (q != 0) = true := by simp [h3]
            have H2 := Lib.hid h2
            have H3 := Lib.hid h3
            clear h2 h3
            go_wp2_with (first | ((with_reducible refine w_ixI elI ?_ ?_ ?_ ?_ ?_ hc hlt ?_); (· rfl); (· exact fun _ => rfl); (· exact fun _ => rfl); (· rfl); (· rfl); intro _; simp only [Act.put, List.setIfInBounds_toArray, List.set_cons_succ, List.set_cons_zero]) | (go_at_call 71; refine (value_c h hin.out HV.out).mono ?_; rintro e w1 ⟨rfl, rfl⟩))
            go_ret2
            have e : unitI vals 0 c = (0, false) := by rw [← hn.out, hst.out, if_pos (.inr ⟨H2.out, H3.out⟩)]
            exact ⟨by rw [e]; rfl, rfl⟩
        · have hb2 : (valI vals c[k] == 0) = false := by simp [h2]
          have H2 := Lib.hid h2
          clear h2
          go_wp2_with (first | ((with_reducible refine w_ixI elI ?_ ?_ ?_ ?_ ?_ hc hlt ?_); (· rfl); (· exact fun _ => rfl); (· exact fun _ => rfl); (· rfl); (· rfl); intro _; simp only [Act.put, List.setIfInBounds_toArray, List.set_cons_succ, List.set_cons_zero]) | (go_at_call 71; refine (value_c h hin.out HV.out).mono ?_; rintro e w1 ⟨rfl, rfl⟩))
          go_round
          case rel => exact ⟨k + 1, q, hlt, by go_num, rfl, by show _ = _; rw [← hn.out, hst.out, if_neg (by rintro (h | ⟨h, _⟩); omega; exact H2.out h), if_neg H2.out]⟩
          case measure => simp [intOf]; omega
    · obtain rfl : k = c.length := by omega
      have e : unitI vals 0 c = (q, decide (q = 0)) := by rw [← hn.out, List.drop_length, unitI]
      have He := Lib.hid e
      clear e
      go_wp2
      go_ret2
      refine ⟨?_, rfl⟩
      rw [He.out]
      rfl

end Go.Proofs.Ytjifihfkoflbiaa
