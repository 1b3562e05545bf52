/-
  The program's Implied, refutes, Verify, Empty.
-/
import Derived.Test.YtjifihfkoflbiaaImp
import Derived.Test.YtjifihfkoflbiaaLaw42
import Derived.Deep.RegionHeld3
namespace Go.Proofs.Ytjifihfkoflbiaa
open Go.RowKit

def pimpliedI (vars : Int) (l : List (List Int)) (c : List Int) : Bool × Int :=
  if checkI vars l ≠ 0 then (false, checkI vars l) else if clauseI vars none c ≠ 0 then (false, clauseI vars none c) else (pimpI vars.toNat l c, 0)

set_option maxHeartbeats 2000000 in
theorem pimplied_c {P P' : Nat → Prop} {u v : Value} {l : List (List Int)} {c : List Int} (vars : Int) (w : World) (hu : Rows P w u l) (hv : Ints P' w v c) (hr : IRR l) :
    Calls Try.prog 23 #[.agg #[.int .i64 vars, u], v] w fun e w' => e = .returned (.tuple #[.bool (pimpliedI vars l c).1, .int .i64 (pimpliedI vars l c).2]) ∧ Ext w w' := by
  by_cases hc : checkI vars l = 0
  · obtain ⟨hv0, hv1, hl, hcl⟩ := checkI_zero hc
    obtain ⟨V, rfl⟩ : ∃ V : Nat, vars = (V : Int) := ⟨vars.toNat, by omega⟩
    have hV : V ≤ 4096 := by omega
    have hin := WL.inR ((clausesI_iff hV).1 hcl)
    by_cases hz : clauseI (V : Int) none c = 0
    · have hver : Hid (pimpliedI (V : Int) l c = (pimpI V l c, 0)) := by show _ = _; unfold pimpliedI; rw [if_neg (by simp [hc]), if_neg (by simp [hz])]; rfl
      have hcr : ∀ x ∈ c, x.natAbs < V + 1 := fun x hx => by have := (((clauseI_iff hV).1 hz).rng x hx).2; omega
      have HC := Lib.hid hcr
      have HI := Lib.hid hin
      clear hcr hin hcl
      go_enter Try.func23, Try.ntmps23
      go_wp2_with (first | (go_at_call 38; refine (pcheck_c _ _ (hu.ext (Ext.of_alloc _ _)) hr).mono ?_; rintro e w1 ⟨rfl, hx1⟩; have hb0 : w1.cell? ⟨w.heap.size, 0, none⟩ = some (.int .i64 (V : Int)) := hx1.cell (by simp); have hb1 : w1.cell? ⟨w.heap.size, 1, none⟩ = some u := hx1.cell (by simp); have hx := (Ext.of_alloc w _).trans hx1; have hu1 := hu.ext hx; have hv1 := hv.ext hx) | (go_at_call 39; refine (single_c _ _ hv1 (by omega) (by omega)).mono ?_; rintro e w2 ⟨rfl, rfl⟩))
      have e2 : Ext w2 w2.drew := (Ext.refl _).drew
      have hB := both_c (P' := noB) (v := .slice none 0 0) (p := []) w2.drew (hu1.ext e2) Arr.nil'
      have e3 : Ext w2.drew ((w2.drew.alloc (.cells #[u] 22)).alloc (.cells #[.slice none 0 0] 22)) := ((Ext.refl _).alloc _).alloc _
      obtain ⟨w3, hw3⟩ : ∃ w3, (w2.drew.alloc (.cells #[u] 22)).alloc (.cells #[.slice none 0 0] 22) = w3 := ⟨_, rfl⟩
      have hBu : w3.cell? ⟨w2.heap.size, 0, none⟩ = some u := by rw [← hw3]; exact ((Boxed.new w2.drew 22 u).alloc _).cell
      have hBv : w3.cell? ⟨w2.heap.size + 1, 0, none⟩ = some (.slice none 0 0) := by rw [← hw3]; have h := (Boxed.new (w2.drew.alloc (.cells #[u] 22)) 22 (.slice none 0 0)).cell; rw [World.size_alloc] at h; exact h
      rw [hw3] at e3 hB
      have e4 := e2.trans e3
      have hI := implied_c (P2 := noB) (l2 := []) hV hBu hBv (hu1.ext e4) Arr.nil' (hv1.ext e4) HI.out (fun c hc => by cases hc) HC.out
      rw [List.append_nil] at hI
      have k0 := e4.cell hb0
      have k1 := e4.cell hb1
      go_region_held3 (fun w' => w'.cell? ⟨w.heap.size, 0, none⟩ = some (.int .i64 (V : Int)) ∧ w'.cell? ⟨w.heap.size, 1, none⟩ = some u) (first | go_keep | exact ⟨k0, k1⟩ | exact ⟨hx5.cell k0, hx5.cell k1⟩)
        (first | (go_at_call 52; refine hB.mono ?_; rintro e w4 ⟨rfl, rfl⟩) | (go_at_call 51; refine hI.mono ?_; rintro e w5 ⟨rfl, hx5⟩))
      all_goals go_wp2
      go_ret2
      exact ⟨ret_bi (by rw [hver.out]; rfl) (by rw [hver.out]), hx.trans (e4.trans hx5)⟩
    · have hver : Hid (pimpliedI (V : Int) l c = (false, clauseI (V : Int) none c)) := by show _ = _; unfold pimpliedI; rw [if_neg (by simp [hc]), if_pos hz]
      clear hin hcl
      go_enter Try.func23, Try.ntmps23
      go_wp2_with (first | (go_at_call 38; refine (pcheck_c _ _ (hu.ext (Ext.of_alloc _ _)) hr).mono ?_; rintro e w1 ⟨rfl, hx1⟩; have hb0 : w1.cell? ⟨w.heap.size, 0, none⟩ = some (.int .i64 (V : Int)) := hx1.cell (by simp); have hx := (Ext.of_alloc w _).trans hx1; have hv1 := hv.ext hx) | (go_at_call 39; refine (single_c _ _ hv1 (by omega) (by omega)).mono ?_; rintro e w2 ⟨rfl, rfl⟩))
      go_ret2
      exact ⟨ret_bi (by rw [hver.out]) (by rw [hver.out]), hx⟩
  · have hver : Hid (pimpliedI vars l c = (false, checkI vars l)) := by show _ = _; unfold pimpliedI; rw [if_pos hc]
    go_enter Try.func23, Try.ntmps23
    go_wp2_with (first | (go_at_call 38; refine (pcheck_c _ _ (hu.ext (Ext.of_alloc _ _)) hr).mono ?_; rintro e w1 ⟨rfl, hx1⟩))
    go_ret2
    exact ⟨ret_bi (by rw [hver.out]) (by rw [hver.out]), (Ext.of_alloc w _).trans hx1⟩

end Go.Proofs.Ytjifihfkoflbiaa
