/-
  The program's implied: the values of a new prover, and the conflict.
-/
import Derived.Test.YtjifihfkoflbiaaConf
import Derived.Deep.OwnRows
import Derived.Laws.OwnMore
namespace Go.Proofs.Ytjifihfkoflbiaa
open Go.RowKit

theorem irow_made (w : World) (n : Nat) : IRow (w.alloc (.cells (madeCells #[.int .i64 0] n) 3)) w.heap.size (List.replicate n 0) := by
  show _ = _
  rw [World.alloc_heap_new]
  congr 2
  apply Array.ext'
  rw [toList_madeCells_one]
  simp

theorem rows_cl {P : Nat → Prop} {w : World} {b m : Nat} {u : Value} {l : List (List Int)} (h : Rows P w u l) (hP : ∀ k, P k → k < w.heap.size ∧ k ≠ b) (hm : InR m l) :
    ∃ xs : List (CL w b m), xs.map CL.lits = l ∧ Arr RW (fun k => k < w.heap.size ∧ k ≠ b) w u (xs.map CL.val) := by
  obtain ⟨xs, h1, h2, h3⟩ := rows_named h
  have hp : ∀ x ∈ xs, Ints (fun k => k < w.heap.size ∧ k ≠ b) w x.1 x.2 ∧ ∀ y ∈ x.2, y.natAbs < m := fun x hx =>
    ⟨Good.weak (R := Ints) (h2 x hx).1 hP, hm x.2 (h1 ▸ List.mem_map_of_mem hx)⟩
  refine ⟨xs.attachWith _ hp, ?_, ?_⟩
  · rw [← h1]
    apply List.ext_getElem
    · simp
    · intro i a1 a2; simp [CL.lits]
  · have e : (xs.attachWith _ hp).map CL.val = xs.map Prod.fst := by
      apply List.ext_getElem
      · simp
      · intro i a1 a2; simp [CL.val]
    rw [e]
    exact Good.weak (R := Arr RW) h3 hP

set_option maxHeartbeats 2000000 in
theorem implied_c {V : Nat} {P : Nat → Prop} {v u1 u2 : Value} {c : List Int} {l1 l2 : List (List Int)} {w : World} {Bu Bv : Nat} {P1 P2 : Nat → Prop} (hV : V ≤ 4096) (hBu : w.cell? ⟨Bu, 0, none⟩ = some u1) (hBv : w.cell? ⟨Bv, 0, none⟩ = some u2)
    (hu : Rows P1 w u1 l1) (hv : Rows P2 w u2 l2) (hc : Ints P w v c) (h1 : InR (V + 1) l1) (h2 : InR (V + 1) l2) (h3 : ∀ x ∈ c, x.natAbs < V + 1) :
    Calls Try.prog 51 #[.int .i64 (V : Int), .func (.func 65) #[] #[.pointer (some ⟨Bu, 0, none⟩), .pointer (some ⟨Bv, 0, none⟩)], v] w
      fun e w' => e = .returned (.bool (conflictI (l1 ++ l2) (startI (V + 1) c))) ∧ Ext w w' := by
  have hle := hc.le
  have hmk : ∀ w : World, (Instr.makeSlice 37 (.int .i64 ((V : Int) + 1)) (.int .i64 ((V : Int) + 1))).run Try.prog w = .ok (.slice (some ⟨w.heap.size, 0, none⟩) (V + 1) (V + 1)) (w.alloc (.cells (madeCells #[.int .i64 0] (V + 1)) 3)) :=
    fun w => run_make_row' (P := Try.prog) 37 3 (.int .i64 0) 8 Try.underlying37 elI.info rfl .i64 .i64 (V + 1) (by omega) (by omega) w
  have H3 := Lib.hid h3
  clear h3
  go_enter Try.func51, Try.ntmps51
  go_wp2_with ((with_reducible refine w_len elI.und ?_ ?_ hc.len ?_); (· rfl); (· rfl); simp only [Act.put, List.setIfInBounds_toArray, List.set_cons_succ, List.set_cons_zero])
  have e1 : Ext w ((w.alloc (.cells (madeCells #[.int .i64 0] (V + 1)) 3)).alloc (.cells #[.slice (some ⟨w.heap.size, 0, none⟩) (V + 1) (V + 1)] 88)) := ((Ext.refl w).alloc _).alloc _
  have hps : PS (w.heap.size + 1) w.heap.size ((w.alloc (.cells (madeCells #[.int .i64 0] (V + 1)) 3)).alloc (.cells #[.slice (some ⟨w.heap.size, 0, none⟩) (V + 1) (V + 1)] 88)) (startI (V + 1) []) := by
    have hb := Boxed.new (w.alloc (.cells (madeCells #[.int .i64 0] (V + 1)) 3)) 88 (.slice (some ⟨w.heap.size, 0, none⟩) (V + 1) (V + 1))
    rw [World.size_alloc] at hb
    refine ⟨by omega, by rw [startI_length]; simp only [maxLen]; omega, by rw [startI_length]; exact hb.cell, ?_⟩
    exact (irow_made w (V + 1)).below (Below.alloc (Below.refl (w.heap.size + 1) _) (by simp) _) (Nat.lt_succ_self _)
  obtain ⟨W1, hW1⟩ : ∃ W1, (w.alloc (.cells (madeCells #[.int .i64 0] (V + 1)) 3)).alloc (.cells #[.slice (some ⟨w.heap.size, 0, none⟩) (V + 1) (V + 1)] 88) = W1 := ⟨_, rfl⟩
  rw [hW1] at e1 hps ⊢
  clear hmk hW1
  go_loopw [17] (fun i wr => ∃ k : Nat, k ≤ c.length ∧ i = .int .i64 k ∧ PS (w.heap.size + 1) w.heap.size wr (startI (V + 1) (c.take k)) ∧ Ext w wr ∧ w.heap.size + 1 < wr.heap.size) (fun i _ => c.length - (intOf i).toNat)
  case atStart => exact ⟨0, Nat.zero_le _, rfl, hps, e1, lt_of_cell hps.2.2.1⟩
  case round =>
    obtain ⟨k, hk, rfl, hps2, e2, hlt2⟩ := hrel
    have hc2 := hc.ext e2
    by_cases hlt : k < c.length
    · have hck := H3.out _ (List.getElem_mem hlt)
      have hlo : -9223372036854775807 ≤ c[k] := by omega
      have hhi : c[k] ≤ 9223372036854775807 := by omega
      have hA := assign_c hps2 (x := -c[k]) (by rw [startI_length]; omega)
      have htk : Hid (startI (V + 1) (c.take (k + 1)) = setI (startI (V + 1) (c.take k)) (-c[k])) := by show _ = _; rw [List.take_succ_eq_append_getElem hlt, startI_snoc]
      clear hck
      go_wp2_with (first | ((with_reducible refine w_ixI elI ?_ ?_ ?_ ?_ ?_ hc2 hlt ?_); (· rfl); (· exact fun _ => rfl); (· exact fun _ => rfl); (· rfl); (· rfl); intro _; simp only [Act.put, List.setIfInBounds_toArray, List.set_cons_succ, List.set_cons_zero]) | (go_at_call 63; refine (hA).mono ?_; rintro e w3 ⟨⟨r, rfl⟩, hps3, k3, u3, rfl⟩))
      go_roundw
      case rel => exact ⟨k + 1, hlt, by go_num, by rw [htk.out]; exact hps3, Below.setCell e2 (Nat.le_refl _) _, Nat.lt_of_lt_of_le hlt2 (KeepsOthers.setCell _ _ _).size⟩
      case measure => simp [intOf]; omega
    · obtain rfl : k = c.length := by omega
      rw [List.take_length] at hps2
      obtain ⟨xs, hx1, hx2⟩ := rows_cl (b := w.heap.size) (m := V + 1) ((Good.ext (R := Rows) (Arr.old hu) e2)) (fun k hk => ⟨Nat.lt_of_lt_of_le hk e2.size, Nat.ne_of_lt hk⟩) h1
      obtain ⟨ys, hy1, hy2⟩ := rows_cl (b := w.heap.size) (m := V + 1) ((Good.ext (R := Rows) (Arr.old hv) e2)) (fun k hk => ⟨Nat.lt_of_lt_of_le hk e2.size, Nat.ne_of_lt hk⟩) h2
      have hC := conflict_c hps2 (startI_length _ _) (startI_signs _ _) (by omega) hlt2 Bu Bv xs ys u1 u2 (e2.cell hBu) (e2.cell hBv) (Nat.ne_of_lt (lt_of_cell hBu)) (Nat.ne_of_lt (lt_of_cell hBv)) hx2 hy2
      rw [List.map_append, hx1, hy1] at hC
      clear hx1 hy1 hx2 hy2
      go_wp2_with (go_at_call 64; refine (hC).mono ?_; rintro e w4 ⟨rfl, hg4⟩)
      go_ret
      exact ⟨rfl, e2.grown hg4 e2.size (fun k e => by cases e; exact Nat.le_refl _)⟩

end Go.Proofs.Ytjifihfkoflbiaa
