/-
  Four laws of layer 42, proved: RefuteVerifies, RefuteImplies, RefuteTrims, RefuteCores, whatever the clauses and the proof.
-/
import Derived.Test.YtjifihfkoflbiaaOpen
namespace Go.Proofs.Ytjifihfkoflbiaa
open Go.ChangeShapes Go.WideShapes Go.ChangeAt Go.RowKit

theorem flatten_small {m : Nat} : ∀ {l : List (List Int)}, (∀ x ∈ l, x.length ≤ m) → l.flatten.length ≤ l.length * m
  | [], _ => by simp
  | c :: l, h => by
    have h1 := h c (by simp)
    have h2 := flatten_small (l := l) (fun x hx => h x (by simp [hx]))
    simp only [List.flatten_cons, List.length_append, List.length_cons, Nat.succ_mul]
    omega
theorem fewI_small : ∀ {l : List (List Int)} {k : Nat}, fewI k l = true → l.length + k ≤ 50 → ∀ x ∈ l, x.length ≤ 20
  | [], _, _, _, x, hx => by cases hx
  | c :: l, k, h, hk, x, hx => by
    simp only [List.length_cons] at hk
    simp only [fewI] at h
    rw [if_pos (by omega)] at h
    by_cases hc : 20 < c.length
    · rw [if_pos hc] at h; cases h
    · rw [if_neg hc] at h
      rcases List.mem_cons.1 hx with rfl | hx
      · omega
      · exact fewI_small h (by omega) x hx
theorem few2I_small : ∀ {l : List (List Int)} {k : Nat}, few2I k l = true → l.length + k ≤ 40 → ∀ x ∈ l, x.length ≤ 20
  | [], _, _, _, x, hx => by cases hx
  | c :: l, k, h, hk, x, hx => by
    simp only [List.length_cons] at hk
    simp only [few2I] at h
    rw [if_pos (by omega)] at h
    by_cases hc : 20 < c.length
    · rw [if_pos hc] at h; cases h
    · rw [if_neg hc] at h
      rcases List.mem_cons.1 hx with rfl | hx
      · omega
      · exact few2I_small h (by omega) x hx
theorem fewB_small {vars : Int} {l : List (List Int)} (h : fewB vars l = true) (hc : checkI vars l = 0) : l.length ≤ 40 ∧ (∀ x ∈ l, x.length ≤ 20) ∧ vars ≤ 14 := by
  have hs : sizesI vars l.length = 0 := by
    unfold checkI at hc
    by_cases h1 : sizesI vars l.length = 0
    · exact h1
    · rw [if_pos h1] at hc; exact absurd hc h1
  unfold fewB at h
  rw [if_neg (by simp [hs])] at h
  split at h
  · rename_i hf
    obtain ⟨h1, h2⟩ := of_decide_eq_true h
    exact ⟨h1, fewI_small hf (by omega), h2⟩
  · cases h
theorem few2B_small {p : List (List Int)} (h : few2B p = true) (hp : p.length ≤ 32768) : p.length ≤ 20 ∧ ∀ x ∈ p, x.length ≤ 20 := by
  unfold few2B at h
  split at h
  · rename_i hf
    have h1 : p.length ≤ 20 := by rcases of_decide_eq_true h with h | h <;> omega
    exact ⟨h1, few2I_small hf (by omega)⟩
  · cases h
theorem few_bulk {vars : Int} {l p : List (List Int)} (h1 : fewB vars l = true) (h2 : few2B p = true) : checkI vars l = 0 → p.length ≤ 32768 → bulkR l + bulkR p ≤ 1500 := by
  intro hc hp
  obtain ⟨a1, a2, _⟩ := fewB_small h1 hc
  obtain ⟨b1, b2⟩ := few2B_small h2 hp
  have := flatten_small a2
  have := flatten_small b2
  unfold bulkR
  omega

section
variable {P P' : Nat → Prop} {u v : Value} {l p : List (List Int)}

set_option maxHeartbeats 1000000 in
theorem verifies_w (vars : Int) (w : World) (hu : Rows P w u l) (hv : Rows P' w v p) (hr : IRR l) :
    Calls Try.prog 3 #[.agg #[.int .i64 vars, u], v] w fun e w' => e = .returned (.bool true) ∧ Ext w w' := by
  cases hf : fewB vars l && few2B p
  · go_enter Try.func3, Try.ntmps3
    go_wp2_with (first | (go_at_call 11; refine (few_c _ _ (hu.ext (Ext.of_alloc _ _)) (hv.ext (Ext.of_alloc _ _))).mono ?_; rintro e w1 ⟨rfl, hx1⟩; rw [hf]) | (go_at_call 12; refine (awake_c _).mono ?_; rintro e w2 ⟨rfl, hx2⟩))
    go_ret
    exact ⟨rfl, ((Ext.of_alloc w _).trans hx1).trans hx2⟩
  · rw [Bool.and_eq_true] at hf
    have hsm := few_bulk hf.1 hf.2
    have Hsm := Lib.hid (fun a b => Nat.le_trans (hsm a b) (by omega : 1500 ≤ 500000))
    have Hf : Hid ((fewB vars l && few2B p) = true) := by show _ = _; rw [hf.1, hf.2]; rfl
    clear hsm hf
    go_enter Try.func3, Try.ntmps3
    go_wp2_with (first | (go_at_call 11; refine (few_c _ _ (hu.ext (Ext.of_alloc _ _)) (hv.ext (Ext.of_alloc _ _))).mono ?_; rintro e w1 ⟨rfl, hx1⟩; rw [Hf.out]; have hx := (Ext.of_alloc w _).trans hx1; have hu1 := hu.ext hx; have hv1 := hv.ext hx; have hb0 : w1.cell? ⟨w.heap.size, 0, none⟩ = some (.int .i64 vars) := hx1.cell (by simp); have hb1 : w1.cell? ⟨w.heap.size, 1, none⟩ = some u := hx1.cell (by simp)) | (go_at_call 13; refine (pverify_c _ _ hu1 hv1 hr).mono ?_; rintro e w2 ⟨rfl, hx2⟩; have hc0 := hx2.cell hb0; have hc1 := hx2.cell hb1; have hu2 := hu1.ext hx2; have hv2 := hv1.ext hx2) | (go_at_call 14; refine (rverify_c _ _ hu2 hv2 Hsm.out).mono ?_; rintro e w3 ⟨rfl, hx3⟩) | (go_at_call 12; refine (awake_c _).mono ?_; rintro e w4 ⟨rfl, hx4⟩))
    all_goals (go_ret; exact ⟨by simp, ((hx.trans hx2).trans hx3).trans hx4⟩)

set_option maxHeartbeats 1000000 in
theorem implies_w (vars : Int) {c : List Int} (w : World) (hu : Rows P w u l) (hv : Ints P' w v c) (hr : IRR l) :
    Calls Try.prog 9 #[.agg #[.int .i64 vars, u], v] w fun e w' => e = .returned (.bool true) ∧ Ext w w' := by
  obtain ⟨av, cv, rfl⟩ := hv.len
  have hone : ∀ W : World, Ext w W → Rows anyB (W.alloc (.cells #[.slice av c.length cv] 37)) (.slice (some ⟨W.heap.size, 0, none⟩) 1 1) [c] := fun W hW =>
    rows_new W [_] [c] rfl trivial ⟨⟨Good.any (R := Ints) (hv.ext hW), rfl⟩, trivial⟩
  have hone1 := hone _ (Ext.of_alloc w (.cells #[.int .i64 vars, u] 24))
  rw [World.size_alloc] at hone1
  have hu0 := hu.ext (((Ext.of_alloc w (.cells #[.int .i64 vars, u] 24))).alloc (.cells #[.slice av c.length cv] 37))
  cases hf : fewB vars l && few2B [c]
  · go_enter Try.func9, Try.ntmps9
    go_wp2_with (first | (go_at_call 11; refine (few_c _ _ hu0 hone1).mono ?_; rintro e w1 ⟨rfl, hx1⟩; rw [hf]) | (go_at_call 12; refine (awake_c _).mono ?_; rintro e w2 ⟨rfl, hx2⟩))
    go_ret
    exact ⟨rfl, (((Ext.of_alloc w _).alloc _).trans hx1).trans hx2⟩
  · rw [Bool.and_eq_true] at hf
    have hsm := few_bulk hf.1 hf.2
    have hsm1 : checkI vars l = 0 → clauseI vars none c = 0 → bulkR l + c.length ≤ 500000 := fun a _ => by
      have := hsm a (by simp)
      rw [bulkR_one] at this; omega
    have hsm2 : checkI vars l = 0 → bulkR l ≤ 500000 := fun a => by have := hsm a (by simp); omega
    have Hsm1 := Lib.hid hsm1
    have Hsm2 := Lib.hid hsm2
    have Hf : Hid ((fewB vars l && few2B [c]) = true) := by show _ = _; rw [hf.1, hf.2]; rfl
    have Heq := Lib.hid (pimpliedI_eq (vars := vars) (l := l) (c := c))
    clear hsm hf hsm1 hsm2
    go_enter Try.func9, Try.ntmps9
    go_wp2_with (first | (go_at_call 11; refine (few_c _ _ hu0 hone1).mono ?_; rintro e w1 ⟨rfl, hx1⟩; rw [Hf.out]; have hx := ((Ext.of_alloc w _).alloc _).trans hx1; have hu1 := hu.ext hx; have hv1 := hv.ext hx; have hb0 : w1.cell? ⟨w.heap.size, 0, none⟩ = some (.int .i64 vars) := hx1.cell (((Ext.refl _).alloc _).cell (by simp)); have hb1 : w1.cell? ⟨w.heap.size, 1, none⟩ = some u := hx1.cell (((Ext.refl _).alloc _).cell (by simp))) | (go_at_call 23; refine (pimplied_c _ _ hu1 hv1 hr).mono ?_; rintro e w2 ⟨rfl, hx2⟩; rw [Heq.out]; have hc0 := hx2.cell hb0; have hc1 := hx2.cell hb1; have hu2 := hu1.ext hx2; have hv2 := hv1.ext hx2) | (go_at_call 30; refine (rimplied_c _ _ hu2 hv2 Hsm1.out).mono ?_; rintro e w3 ⟨rfl, hx3⟩; have hd0 := hx3.cell hc0; have hd1 := hx3.cell hc1; have hu3 := hu2.ext hx3) | (go_at_call 31; refine (pempty_c _ _ hu3 hr).mono ?_; rintro e w4 ⟨rfl, hx4⟩; have he0 := hx4.cell hd0; have he1 := hx4.cell hd1; have hu4 := hu3.ext hx4) | (go_at_call 32; refine (rempty_c _ _ hu4 Hsm2.out).mono ?_; rintro e w5 ⟨rfl, hx5⟩) | (go_at_call 12; refine (awake_c _).mono ?_; rintro e w6 ⟨rfl, hx6⟩))
    all_goals (go_ret; exact ⟨by simp, ((((hx.trans hx2).trans hx3).trans hx4).trans hx5).trans hx6⟩)

set_option maxHeartbeats 1000000 in
theorem trims_w (vars : Int) (w : World) (hu : Rows P w u l) (hv : Rows P' w v p) (hr : IRR l) :
    Calls Try.prog 4 #[.agg #[.int .i64 vars, u], v] w fun e w' => e = .returned (.bool true) ∧ Ext w w' := by
  have hb0' : ∀ w1, Ext (w.alloc (.cells #[.int .i64 vars, u] 24)) w1 → w1.cell? ⟨w.heap.size, 0, none⟩ = some (.int .i64 vars) ∧ w1.cell? ⟨w.heap.size, 1, none⟩ = some u := fun w1 hx1 => ⟨hx1.cell (by simp), hx1.cell (by simp)⟩
  have HB := Lib.hid hb0'
  clear hb0'
  cases hf : fewB vars l && few2B p
  · go_enter Try.func4, Try.ntmps4
    go_wp2_with (first | (go_at_call 11; refine (few_c _ _ (hu.ext (Ext.of_alloc _ _)) (hv.ext (Ext.of_alloc _ _))).mono ?_; rintro e w1 ⟨rfl, hx1⟩; rw [hf]) | (go_at_call 12; refine (awake_c _).mono ?_; rintro e w2 ⟨rfl, hx2⟩))
    go_ret
    exact ⟨rfl, ((Ext.of_alloc w _).trans hx1).trans hx2⟩
  · rw [Bool.and_eq_true] at hf
    have hsm := few_bulk hf.1 hf.2
    have Hsm := Lib.hid (fun a b => Nat.le_trans (hsm a b) (by omega : 1500 ≤ 500000))
    have Hf : Hid ((fewB vars l && few2B p) = true) := by show _ = _; rw [hf.1, hf.2]; rfl
    clear hsm hf
    have hle := hu.le
    by_cases h20 : l.length ≤ 20
    · have hd20 : decide ((20 : Int) < (l.length : Int)) = false := decide_eq_false (by omega)
      go_enter Try.func4, Try.ntmps4
      go_wp2_with (first | (go_at_call 11; refine (few_c _ _ (hu.ext (Ext.of_alloc _ _)) (hv.ext (Ext.of_alloc _ _))).mono ?_; rintro e w1 ⟨rfl, hx1⟩; rw [Hf.out]; have hx := (Ext.of_alloc w _).trans hx1; have hu1 := hu.ext hx; have hv1 := hv.ext hx; obtain ⟨hb0, hb1⟩ := HB.out w1 hx1) | ((with_reducible refine w_len elR.und ?_ ?_ hu1.len ?_); (· rfl); (· rfl); simp only [Act.put, List.setIfInBounds_toArray, List.set_cons_succ, List.set_cons_zero]) | (go_at_call 15; refine (ptrim_c _ _ hu1 hv1 hr).mono ?_; rintro e w2 ⟨_, rfl, ⟨x2, rfl, hr2⟩, hx2⟩; have hc0 := hx2.cell hb0; have hc1 := hx2.cell hb1; have hu2 := hu1.ext hx2; have hv2 := hv1.ext hx2) | (go_at_call 16; refine (rtrim_c _ _ hu2 hv2 Hsm.out).mono ?_; rintro e w3 ⟨_, rfl, ⟨x3, rfl, hr3⟩, hx3⟩; have hr23 := Good.ext (R := Rows) hr2 hx3) | (go_at_call 12; refine (awake_c _).mono ?_; rintro e w4 ⟨rfl, hx4⟩; have hr24 := Good.ext (R := Rows) hr23 hx4; have hr34 := Good.ext (R := Rows) hr3 hx4) | (go_at_call 17; refine (sameAll_c _ hr24 hr34).mono ?_; rintro e w5 ⟨rfl, n5, rfl⟩; rw [(sameAllI_iff _ _).2 rfl]))
      all_goals (go_ret; exact ⟨by simp, (((hx.trans hx2).trans hx3).trans hx4).drewN _⟩)
    · have hd20 : decide ((20 : Int) < (l.length : Int)) = true := decide_eq_true (by omega)
      go_enter Try.func4, Try.ntmps4
      go_wp2_with (first | (go_at_call 11; refine (few_c _ _ (hu.ext (Ext.of_alloc _ _)) (hv.ext (Ext.of_alloc _ _))).mono ?_; rintro e w1 ⟨rfl, hx1⟩; rw [Hf.out]; have hx := (Ext.of_alloc w _).trans hx1; have hu1 := hu.ext hx; obtain ⟨hb0, hb1⟩ := HB.out w1 hx1) | ((with_reducible refine w_len elR.und ?_ ?_ hu1.len ?_); (· rfl); (· rfl); simp only [Act.put, List.setIfInBounds_toArray, List.set_cons_succ, List.set_cons_zero]) | (go_at_call 12; refine (awake_c _).mono ?_; rintro e w2 ⟨rfl, hx2⟩))
      go_ret
      exact ⟨rfl, hx.trans hx2⟩

set_option maxHeartbeats 1000000 in
theorem cores_w (vars : Int) (w : World) (hu : Rows P w u l) (hv : Rows P' w v p) (hr : IRR l) :
    Calls Try.prog 5 #[.agg #[.int .i64 vars, u], v] w fun e w' => e = .returned (.bool true) ∧ Ext w w' := by
  have hb0' : ∀ w1, Ext (w.alloc (.cells #[.int .i64 vars, u] 24)) w1 → w1.cell? ⟨w.heap.size, 0, none⟩ = some (.int .i64 vars) ∧ w1.cell? ⟨w.heap.size, 1, none⟩ = some u := fun w1 hx1 => ⟨hx1.cell (by simp), hx1.cell (by simp)⟩
  have HB := Lib.hid hb0'
  clear hb0'
  cases hf : fewB vars l && few2B p
  · go_enter Try.func5, Try.ntmps5
    go_wp2_with (first | (go_at_call 11; refine (few_c _ _ (hu.ext (Ext.of_alloc _ _)) (hv.ext (Ext.of_alloc _ _))).mono ?_; rintro e w1 ⟨rfl, hx1⟩; rw [hf]) | (go_at_call 12; refine (awake_c _).mono ?_; rintro e w2 ⟨rfl, hx2⟩))
    go_ret
    exact ⟨rfl, ((Ext.of_alloc w _).trans hx1).trans hx2⟩
  · rw [Bool.and_eq_true] at hf
    have hsm := few_bulk hf.1 hf.2
    have Hsm := Lib.hid (fun a b => Nat.le_trans (hsm a b) (by omega : 1500 ≤ 500000))
    have hsm2 : checkI vars l = 0 → p.length ≤ 32768 → l.length ≤ 200 ∧ (∀ x ∈ l, x.length ≤ 1000) ∧ bulkR p ≤ 200000 := fun a b => by
      obtain ⟨c1, c2, _⟩ := fewB_small hf.1 a
      have := hsm a b
      exact ⟨by omega, fun x hx => by have := c2 x hx; omega, by omega⟩
    have Hsm2 := Lib.hid hsm2
    have Hf : Hid ((fewB vars l && few2B p) = true) := by show _ = _; rw [hf.1, hf.2]; rfl
    clear hsm hf hsm2
    have hle := hu.le
    by_cases h20 : l.length ≤ 20
    · have hd20 : decide ((20 : Int) < (l.length : Int)) = false := decide_eq_false (by omega)
      go_enter Try.func5, Try.ntmps5
      go_wp2_with (first | (go_at_call 11; refine (few_c _ _ (hu.ext (Ext.of_alloc _ _)) (hv.ext (Ext.of_alloc _ _))).mono ?_; rintro e w1 ⟨rfl, hx1⟩; rw [Hf.out]; have hx := (Ext.of_alloc w _).trans hx1; have hu1 := hu.ext hx; have hv1 := hv.ext hx; obtain ⟨hb0, hb1⟩ := HB.out w1 hx1) | ((with_reducible refine w_len elR.und ?_ ?_ hu1.len ?_); (· rfl); (· rfl); simp only [Act.put, List.setIfInBounds_toArray, List.set_cons_succ, List.set_cons_zero]) | (go_at_call 18; refine (pcore_c _ _ hu1 hv1 hr).mono ?_; rintro e w2 ⟨_, rfl, ⟨x2, rfl, hr2⟩, hx2⟩; have hc0 := hx2.cell hb0; have hc1 := hx2.cell hb1; have hu2 := hu1.ext hx2; have hv2 := hv1.ext hx2) | (go_at_call 19; refine (rcore_c _ _ hu2 hv2 Hsm.out Hsm2.out).mono ?_; rintro e w3 ⟨_, rfl, ⟨x3, rfl, hr3⟩, hx3⟩; have hr23 := Good.ext (R := Ints) hr2 hx3) | (go_at_call 12; refine (awake_c _).mono ?_; rintro e w4 ⟨rfl, hx4⟩; have hr24 := Good.ext (R := Ints) hr23 hx4; have hr34 := Good.ext (R := Ints) hr3 hx4) | (go_at_call 20; refine (equal_c _ hr24 hr34).mono ?_; rintro e w5 ⟨rfl, n5, rfl⟩; rw [(sameI_iff _ _).2 rfl]))
      all_goals (go_ret; exact ⟨by simp, (((hx.trans hx2).trans hx3).trans hx4).drewN _⟩)
    · have hd20 : decide ((20 : Int) < (l.length : Int)) = true := decide_eq_true (by omega)
      go_enter Try.func5, Try.ntmps5
      go_wp2_with (first | (go_at_call 11; refine (few_c _ _ (hu.ext (Ext.of_alloc _ _)) (hv.ext (Ext.of_alloc _ _))).mono ?_; rintro e w1 ⟨rfl, hx1⟩; rw [Hf.out]; have hx := (Ext.of_alloc w _).trans hx1; have hu1 := hu.ext hx; obtain ⟨hb0, hb1⟩ := HB.out w1 hx1) | ((with_reducible refine w_len elR.und ?_ ?_ hu1.len ?_); (· rfl); (· rfl); simp only [Act.put, List.setIfInBounds_toArray, List.set_cons_succ, List.set_cons_zero]) | (go_at_call 12; refine (awake_c _).mono ?_; rintro e w2 ⟨rfl, hx2⟩))
      go_ret
      exact ⟨rfl, hx.trans hx2⟩
end

end Go.Proofs.Ytjifihfkoflbiaa
