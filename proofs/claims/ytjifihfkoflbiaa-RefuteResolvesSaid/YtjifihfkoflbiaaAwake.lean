/-
  The law package's own functions: few, example, awake; and slices.Equal.
-/
import Derived.Test.YtjifihfkoflbiaaPTrim
namespace Go.Proofs.Ytjifihfkoflbiaa
open Go.RowKit

set_option maxHeartbeats 1000000 in
theorem equal_c {P P' : Nat → Prop} {u v : Value} {a b : List Int} (w : World) (hu : Ints P w u a) (hv : Ints P' w v b) :
    Calls Try.prog 20 #[u, v] w fun e w' => e = .returned (.bool (sameI a b)) ∧ ∃ n, w' = w.drewN n := by
  have hle := hu.le
  have hle' := hv.le
  by_cases hl : a.length = b.length
  · have Hl := Lib.hid hl
    have hb : ((a.length : Int) != (b.length : Int)) = false := by rw [hl]; simp
    clear hl
    go_enter Try.func20, Try.ntmps20
    go_wp2_with (first | ((with_reducible refine w_len elI.und ?_ ?_ hu.len ?_); (· rfl); (· rfl); simp only [Act.put, List.setIfInBounds_toArray, List.set_cons_succ, List.set_cons_zero]) | ((with_reducible refine w_len elI.und ?_ ?_ hv.len ?_); (· rfl); (· rfl); simp only [Act.put, List.setIfInBounds_toArray, List.set_cons_succ, List.set_cons_zero]))
    go_loopw [13] (fun i wr => ∃ k m : Nat, k ≤ a.length ∧ i = .int .i64 k ∧ Hid (sameI (a.drop k) (b.drop k) = sameI a b) ∧ wr = w.drewN m) (fun i _ => a.length - (intOf i).toNat)
    case atStart => exact ⟨0, 0, Nat.zero_le _, rfl, rfl, rfl⟩
    case round =>
      obtain ⟨k, m, hk, rfl, hn, rfl⟩ := hrel
      have hu' := hu.ext (Ext.of_drewN w m)
      have hv' := hv.ext (Ext.of_drewN w m)
      by_cases hlt : k < a.length
      · have hlt' : k < b.length := by rw [← Hl.out]; exact hlt
        have hst := Lib.hid (sameI_step hlt hlt')
        go_wp2_with fail
        (refine wp_region_quiet_lit (by kernel_rfl) (by kernel_rfl) ?_; (repeat (first | go_big_quiet_skip |  ((with_reducible refine q_ixI elI ?_ ?_ ?_ ?_ hu' hlt ext_of_class ?_ ?_); (· rfl); (· exact fun _ => rfl); (· rfl); (· rfl); (· exact fun _ => rfl); intro _; simp only [Act.put, List.setIfInBounds_toArray, List.set_cons_succ, List.set_cons_zero]) | ((with_reducible refine q_ixI elI ?_ ?_ ?_ ?_ hv' hlt' ext_of_class ?_ ?_); (· rfl); (· exact fun _ => rfl); (· rfl); (· rfl); (· exact fun _ => rfl); intro _; simp only [Act.put, List.setIfInBounds_toArray, List.set_cons_succ, List.set_cons_zero])  | go_big_quiet_step (fail))); refine wpQuiet_nil ?_; rintro _ ⟨nq, rfl⟩)
        by_cases hz : a[k] = b[k]
        · have hz' : (a[k] != b[k]) = false := by simp [hz]
          have Hz := Lib.hid hz
          clear hz
          go_wp2
          go_roundw
          case rel => exact ⟨k + 1, m + nq, hlt, by go_num, by rw [← hn.out, hst.out, if_neg (by simp [Hz.out])]; rfl, rfl⟩
          case measure => simp [intOf]; omega
        · have hz' : (a[k] != b[k]) = true := by simp [hz]
          go_wp2
          go_ret
          exact ⟨ret_b (by rw [← hn.out, hst.out, if_pos hz]), m + nq, World.drewN_drewN ..⟩
      · obtain rfl : k = a.length := by omega
        go_wp2
        go_ret
        exact ⟨ret_b (by rw [← hn.out, List.drop_length, Hl.out, List.drop_length, sameI]), m, rfl⟩
  · have hb : ((a.length : Int) != (b.length : Int)) = true := by simp; omega
    have hf := Lib.hid (sameI_len hl)
    go_enter Try.func20, Try.ntmps20
    go_wp2_with (first | ((with_reducible refine w_len elI.und ?_ ?_ hu.len ?_); (· rfl); (· rfl); simp only [Act.put, List.setIfInBounds_toArray, List.set_cons_succ, List.set_cons_zero]) | ((with_reducible refine w_len elI.und ?_ ?_ hv.len ?_); (· rfl); (· rfl); simp only [Act.put, List.setIfInBounds_toArray, List.set_cons_succ, List.set_cons_zero]))
    go_ret
    exact ⟨ret_b (by rw [hf.out]), 0, rfl⟩

theorem few_c {P P' : Nat → Prop} {u v : Value} {l p : List (List Int)} (vars : Int) (w : World) (hu : Rows P w u l) (hv : Rows P' w v p) :
    Calls Try.prog 11 #[.agg #[.int .i64 vars, u], v] w fun e w' => e = .returned (.bool (fewB vars l && few2B p)) ∧ Ext w w' := by
  cases h1 : fewB vars l
  · go_enter Try.func11, Try.ntmps11
    go_wp2_with (first | (go_at_call 35; refine (few41_c vars _ (hu.ext (Ext.of_alloc _ _))).mono ?_; rintro e w1 ⟨rfl, hx1⟩; rw [h1]))
    go_ret
    exact ⟨rfl, (Ext.of_alloc w _).trans hx1⟩
  · go_enter Try.func11, Try.ntmps11
    go_wp2_with (first | (go_at_call 35; refine (few41_c vars _ (hu.ext (Ext.of_alloc _ _))).mono ?_; rintro e w1 ⟨rfl, hx1⟩; rw [h1]) | (go_at_call 36; refine (few42_c _ (hv.ext ((Ext.of_alloc w _).trans hx1))).mono ?_; rintro e w2 ⟨rfl, rfl⟩))
    go_ret
    exact ⟨rfl, (Ext.of_alloc w _).trans hx1⟩

/-! ### rows of literals -/

/-- ints in a new block -/
theorem ints_new {P : Nat → Prop} (w : World) (zs : List Int) {n : Nat} (hn : w.heap.size = n) (hP : P n) (h : zs.length ≤ maxLen := by decide) : Ints P (w.alloc (.cells (zs.map (Value.int .i64)).toArray 3)) (.slice (some ⟨n, 0, none⟩) zs.length zs.length) zs := by
  subst hn
  exact ⟨_, _, rfl, Nat.le_refl _, h, fun k hk => ⟨.int .i64 zs[k], w.heap.size, 0, rfl, rfl, rfl, hP, by
    unfold World.cell?; rw [World.alloc_heap_new]; simp [hk]⟩⟩
/-- values that read as rows -/
def AllR (P : Nat → Prop) (w : World) : List Value → List (List Int) → Prop
  | [], [] => True
  | u :: us, x :: xs => (Ints P w u x ∧ u.oneCell' = true) ∧ AllR P w us xs
  | _, _ => False
theorem AllR.get {P : Nat → Prop} {w : World} : ∀ {us : List Value} {xs : List (List Int)}, AllR P w us xs → us.length = xs.length ∧ ∀ k (h : k < us.length) (h' : k < xs.length), Ints P w us[k] xs[k] ∧ us[k].oneCell' = true
  | [], [], _ => ⟨rfl, fun k h => absurd h (Nat.not_lt_zero k)⟩
  | u :: us, x :: xs, h => by
    obtain ⟨e, h2⟩ := AllR.get h.2
    refine ⟨by simp [e], fun k h1 h1' => ?_⟩
    cases k with
    | zero => exact h.1
    | succ k => exact h2 k (by simpa using h1) (by simpa using h1')
  | [], _ :: _, h => h.elim
  | _ :: _, [], h => h.elim
theorem rows_new {P : Nat → Prop} (w : World) (us : List Value) (xs : List (List Int)) {n : Nat} (hn : w.heap.size = n) (hP : P n) (h : AllR P w us xs) (hm : us.length ≤ maxLen := by simp [maxLen]) : Rows P (w.alloc (.cells us.toArray 37)) (.slice (some ⟨n, 0, none⟩) us.length us.length) xs := by
  subst hn
  obtain ⟨e, h2⟩ := h.get
  refine ⟨_, us.length, by rw [e], by omega, hm, fun k hk => ⟨us[k], w.heap.size, 0, Good.ext (R := Ints) (h2 k (by omega) hk).1 (Ext.of_alloc _ _), (h2 k (by omega) hk).2, rfl, hP, ?_⟩⟩
  unfold World.cell?; rw [World.alloc_heap_new]; simp [show k < us.length from by omega]
theorem ints_older {P : Nat → Prop} {w : World} {u : Value} {x : List Int} {o : Obj} (h : Ints P w u x) : Ints P (w.alloc o) u x := h.ext (Ext.of_alloc _ _)
theorem ints_nil {P : Nat → Prop} (w : World) : Ints P w (.slice none 0 0) [] := Arr.nil'

section
variable {P P' : Nat → Prop} {u v : Value} {l p : List (List Int)} {vars : Int}
/-- the contracts, with what was read still read -/
theorem pverify_k {r : Int × Int} (h : verifyI vars l p = r) (w : World) (hu : Rows P w u l) (hv : Rows P' w v p) (hr : IRR l) :
    Calls Try.prog 13 #[.agg #[.int .i64 vars, u], v] w fun e w' => e = .returned (.tuple #[.int .i64 r.1, .int .i64 r.2]) ∧ Rows P w' u l ∧ Rows P' w' v p ∧ Ext w w' := by
  subst h
  exact (pverify_c vars w hu hv hr).mono fun e w' ⟨h1, h2⟩ => ⟨h1, hu.ext h2, hv.ext h2, h2⟩
theorem pimplied_k {c : List Int} {r : Bool × Int} (h : impliedI vars l c = r) (w : World) (hu : Rows P w u l) (hv : Ints P' w v c) (hr : IRR l) :
    Calls Try.prog 23 #[.agg #[.int .i64 vars, u], v] w fun e w' => e = .returned (.tuple #[.bool r.1, .int .i64 r.2]) ∧ Rows P w' u l ∧ Ints P' w' v c ∧ Ext w w' := by
  subst h
  rw [← pimpliedI_eq]
  exact (pimplied_c vars w hu hv hr).mono fun e w' ⟨h1, h2⟩ => ⟨h1, hu.ext h2, hv.ext h2, h2⟩
theorem ptrim_k (h : verifyI vars l p = (0, 0)) {r : List (List Int)} (h2 : trimI l p = r) (w : World) (hu : Rows P w u l) (hv : Rows P' w v p) (hr : IRR l) :
    Calls Try.prog 15 #[.agg #[.int .i64 vars, u], v] w fun e w' => ∃ x, e = .returned (.tuple #[x, .int .i64 0]) ∧ Rows (fun k => P' k ∨ w.heap.size ≤ k) w' x r ∧ Rows P w' u l ∧ Rows P' w' v p ∧ Ext w w' := by
  refine (ptrim_c vars w hu hv hr).mono ?_
  rintro e w' ⟨_, rfl, ⟨x, rfl, hx⟩, h3⟩
  rw [h] at hx ⊢
  rw [h2] at hx
  exact ⟨x, rfl, hx, hu.ext h3, hv.ext h3, h3⟩
theorem pcore_k (h : verifyI vars l p = (0, 0)) {r : List Int} (h2 : coreI l p = r) (w : World) (hu : Rows P w u l) (hv : Rows P' w v p) (hr : IRR l) :
    Calls Try.prog 18 #[.agg #[.int .i64 vars, u], v] w fun e w' => ∃ x, e = .returned (.tuple #[x, .int .i64 0]) ∧ Ints (fun k => w.heap.size ≤ k) w' x r ∧ Rows P w' u l ∧ Rows P' w' v p ∧ Ext w w' := by
  refine (pcore_c vars w hu hv hr).mono ?_
  rintro e w' ⟨_, rfl, ⟨x, rfl, hx⟩, h3⟩
  rw [h] at hx ⊢
  rw [h2] at hx
  exact ⟨x, rfl, hx, hu.ext h3, hv.ext h3, h3⟩
end

def exC : List (List Int) := [[1, 2], [1, -2], [-1, 2], [-1, -2]]

theorem example_c (w : World) : Calls Try.prog 37 #[] w (RetP (fun w' r => ∃ s, r = .agg #[.int .i64 2, s] ∧ Rows anyB w' s exC ∧ s.oneCell' = true) w) := by
  go_enter Try.func37, Try.ntmps37
  go_wp2
  refine bodyPost_ret (results_cell_row rfl _ _ w.heap.size 24 #[.int .i64 2, .slice (some ⟨w.heap.size + 1 + 1 + 1 + 1 + 1, 0, none⟩) 4 4] (0, 0) _ rfl ?hg Try.underlying24 rfl (by kernel_rfl)) rfl ?_
  case hg => exact (Ext.refl _).alloc _ |>.alloc _ |>.alloc _ |>.alloc _ |>.alloc _ |> fun e => (Below.block e w.heap.size (by simp)).trans (World.alloc_heap_new ..)
  refine ⟨_, rfl, ⟨_, rfl, ?_, rfl⟩, Ext.refl _ |>.alloc _ |>.alloc _ |>.alloc _ |>.alloc _ |>.alloc _ |>.alloc _⟩
  refine rows_new _ [_, _, _, _] exC (by simp) trivial ⟨⟨?_, rfl⟩, ⟨?_, rfl⟩, ⟨?_, rfl⟩, ⟨?_, rfl⟩, trivial⟩
  · exact ints_older (ints_older (ints_older (ints_new _ [1, 2] (by simp) trivial)))
  · exact ints_older (ints_older (ints_new _ [1, -2] (by simp) trivial))
  · exact ints_older (ints_new _ [-1, 2] (by simp) trivial)
  · exact ints_new _ [-1, -2] (by simp) trivial

def ex3 : List (List Int) := [[1, 2], [1, -2], [-1, 2]]
theorem ex3R : IRR ex3 := by unfold IRR ex3; decide
theorem exR : IRR exC := by unfold IRR exC; decide
theorem aw1 : impliedI 2 exC [1] = (true, 0) := by kernel_rfl
theorem aw2 : verifyI 2 exC [[1], []] = (0, 0) := by kernel_rfl
theorem aw3 : verifyI 2 exC [[]] = (0, 18) := by kernel_rfl
theorem aw4 : verifyI 2 exC [[1, 2], [2], [1], []] = (0, 0) := by kernel_rfl
theorem aw5 : trimI exC [[1, 2], [2], [1], []] = [[2], []] := by kernel_rfl
theorem aw6 : coreI exC [[1, 2], [2], [1], []] = [0, 1, 2, 3] := by kernel_rfl
theorem aw7 : verifyI 2 ex3 [[1], []] = (1, 18) := by kernel_rfl

set_option maxHeartbeats 1500000 in
theorem awake_c (w : World) : Calls Try.prog 12 #[] w fun e w' => e = .returned (.bool true) ∧ Ext w w' := by
  go_enter Try.func12, Try.ntmps12
  go_wp2_with (go_at_call 37; refine (example_c _).mono ?_; rintro e w1 ⟨r, rfl, ⟨s, rfl, hs0, h1s⟩, hx1⟩; obtain ⟨sa, sc, rfl⟩ := hs0.len; have hs := Arr.old hs0; clear hs0)
  refine (pimplied_k aw1 _ (hs.ext (by repeat (first | exact Ext.refl _ | assumption | apply Ext.alloc | apply Ext.drew))) (ints_new (P := anyB) _ [1] (by simp) trivial) exR).mono ?_
  rintro e w2 ⟨rfl, hs2, _, hx2⟩
  have e2 : Ext w1 w2 := Ext.trans (by repeat (first | exact Ext.refl _ | assumption | apply Ext.alloc | apply Ext.drew)) hx2
  have hB : w1.heap.size < w2.heap.size := Nat.lt_of_lt_of_le (by simp; omega) hx2.size
  have hc0 : w2.cell? ⟨w1.heap.size, 0, none⟩ = some (.int .i64 2) := hx2.cell ((Ext.of_alloc _ _).cell (by simp))
  have hc1 : w2.cell? ⟨w1.heap.size, 1, none⟩ = some (.slice sa exC.length sc) := hx2.cell ((Ext.of_alloc _ _).cell (by simp))
  have hf2 : w2.frozen? ⟨w1.heap.size, 1, none⟩ = false := (hx2.frozen (by simp; omega)).trans (((Ext.of_alloc _ _).frozen (by simp)).trans (by unfold World.frozen?; rw [World.alloc_heap_new]; rfl))
  clear hx2 hs
  go_wp2_with fail
  refine (pverify_k aw2 _ (hs2.ext (by repeat (first | exact Ext.refl _ | assumption | apply Ext.alloc | apply Ext.drew))) (rows_new (P := anyB) _ [_, _] [[1], []] (by simp) trivial ⟨⟨ints_new _ [1] (by simp) trivial, rfl⟩, ⟨ints_nil _, rfl⟩, trivial⟩) exR).mono ?_
  rintro e w3 ⟨rfl, hs3, _, hx3⟩
  have e3 : Ext w2 w3 := Ext.trans (by repeat (first | exact Ext.refl _ | assumption | apply Ext.alloc | apply Ext.drew)) hx3
  have hd0 := e3.cell hc0
  have hd1 := e3.cell hc1
  clear hx3 hs2 hc0 hc1
  go_wp2_with fail
  refine (pverify_k aw3 _ (hs3.ext (by repeat (first | exact Ext.refl _ | assumption | apply Ext.alloc | apply Ext.drew))) (rows_new (P := anyB) _ [_] [[]] (by simp) trivial ⟨⟨ints_nil _, rfl⟩, trivial⟩) exR).mono ?_
  rintro e w4 ⟨rfl, hs4, _, hx4⟩
  have e4 : Ext w3 w4 := Ext.trans (by repeat (first | exact Ext.refl _ | assumption | apply Ext.alloc | apply Ext.drew)) hx4
  have hc0 := e4.cell hd0
  have hc1 := e4.cell hd1
  clear hx4 hs3 hd0 hd1
  have hB4 : w1.heap.size < w4.heap.size := Nat.lt_of_lt_of_le hB (e3.trans e4).size
  have hq0 : ∀ o1 o2 o3 o4 : Obj, ((((w4.alloc o1).alloc o2).alloc o3).alloc o4).cell? ⟨w1.heap.size, 0, none⟩ = some (.int .i64 2) := fun o1 o2 o3 o4 => ((((Ext.refl w4).alloc o1).alloc o2).alloc o3 |>.alloc o4).cell hc0
  have hq1 : ∀ o1 o2 o3 o4 : Obj, ((((w4.alloc o1).alloc o2).alloc o3).alloc o4).cell? ⟨w1.heap.size, 1, none⟩ = some (.slice sa exC.length sc) := fun o1 o2 o3 o4 => ((((Ext.refl w4).alloc o1).alloc o2).alloc o3 |>.alloc o4).cell hc1
  go_wp2_with fail
  clear hq0 hq1
  refine (pverify_k aw4 _ (hs4.ext (by repeat (first | exact Ext.refl _ | assumption | apply Ext.alloc | apply Ext.drew))) (rows_new (P := fun k => w1.heap.size < k) _ [_, _, _, _] [[1, 2], [2], [1], []] (by simp) (by omega) ⟨⟨ints_older (ints_older (ints_new _ [1, 2] (by simp) (by omega))), rfl⟩, ⟨ints_older (ints_new _ [2] (by simp) (by omega)), rfl⟩, ⟨ints_new _ [1] (by simp) (by omega), rfl⟩, ⟨ints_nil _, rfl⟩, trivial⟩) exR).mono ?_
  rintro e w5 ⟨rfl, hs5, hl5, hx5⟩
  have e5 : Ext w4 w5 := Ext.trans (by repeat (first | exact Ext.refl _ | assumption | apply Ext.alloc | apply Ext.drew)) hx5
  have hd0 := e5.cell hc0
  have hd1 := e5.cell hc1
  clear hx5 hs4 hc0 hc1
  go_wp2_with fail
  refine (ptrim_k aw4 aw5 _ (hs5.ext (by repeat (first | exact Ext.refl _ | assumption | apply Ext.alloc | apply Ext.drew))) (hl5.ext (by repeat (first | exact Ext.refl _ | assumption | apply Ext.alloc | apply Ext.drew))) exR).mono ?_
  rintro e w6 ⟨x6, rfl, hx6, hs6, hl6, e6⟩
  have hc0 := e6.cell hd0
  have hc1 := e6.cell hd1
  clear hs5 hl5 hd0 hd1
  go_wp2_with fail
  refine (pcore_k aw4 aw6 _ (hs6.ext (by repeat (first | exact Ext.refl _ | assumption | apply Ext.alloc | apply Ext.drew))) (hl6.ext (by repeat (first | exact Ext.refl _ | assumption | apply Ext.alloc | apply Ext.drew))) exR).mono ?_
  rintro e w7 ⟨x7, rfl, hx7, hs7, hl7, e7⟩
  have hd0 := e7.cell hc0
  have hd1 := e7.cell hc1
  have hy6 := hx6.ext e7
  clear hs6 hl6 hc0 hc1 hx6 hl7
  have hf7 : w7.frozen? ⟨w1.heap.size, 1, none⟩ = false := ((((((e3.trans e4).trans e5).trans e6).trans e7).frozen hB)).trans hf2
  have hB7 : w1.heap.size < w7.heap.size := Nat.lt_of_lt_of_le hB4 ((e5.trans e6).trans e7).size
  have hw7 : Ext w w7 := ((((((hx1.trans e2).trans e3).trans e4).trans e5).trans e6).trans e7)
  have h56 : w1.heap.size < w6.heap.size := Nat.lt_of_lt_of_le hB4 (e5.trans e6).size
  have h55 : w1.heap.size < w5.heap.size := Nat.lt_of_lt_of_le hB4 e5.size
  have hw1 := hx1.size
  clear hf2 e2 e3 e4 e5 e6 e7 hx1
  go_wp2_with ((with_reducible refine w_slice elR ?_ hs7 0 3 ?_ ?_ (by decide) (by decide) ?_); (· rfl); (· exact (.inl ⟨rfl, rfl⟩)); (· exact (.inr ⟨.i64, rfl⟩)); rintro v8 hs8; replace hs8 : Rows (fun k => k < w1.heap.size) w7 v8 ex3 := hs8; obtain ⟨s8, c8, rfl⟩ := hs8.len; (have hs9 : Rows (fun k => k < w1.heap.size) (w7.setCell ⟨w1.heap.size, 1, none⟩ (.slice s8 ex3.length c8)) _ ex3 := Good.move (R := Rows) hs8 (fun k hk _ => Below.heap_setCell w7 _ _ k (fun e => Nat.ne_of_lt hk e))); (have hy7 : Rows anyB (w7.setCell ⟨w1.heap.size, 1, none⟩ (.slice s8 ex3.length c8)) x6 _ := Good.any (R := Rows) (Good.move (R := Rows) hy6 (fun k hk _ => Below.heap_setCell w7 _ _ k (fun e => by have e' : k = w1.heap.size := e; omega)))); (have hx8 : Ints anyB (w7.setCell ⟨w1.heap.size, 1, none⟩ (.slice s8 ex3.length c8)) x7 _ := Good.any (R := Ints) (Good.move (R := Ints) hx7 (fun k hk _ => Below.heap_setCell w7 _ _ k (fun e => by have e' : k = w1.heap.size := e; omega)))); (have hw8 : Ext w (w7.setCell ⟨w1.heap.size, 1, none⟩ (.slice s8 ex3.length c8)) := Below.setCell hw7 hw1 _); simp only [Act.put, List.setIfInBounds_toArray, List.set_cons_succ, List.set_cons_zero])
  refine (pverify_k aw7 _ (hs9.ext (by repeat (first | exact Ext.refl _ | assumption | apply Ext.alloc | apply Ext.drew))) (rows_new (P := anyB) _ [_, _] [[1], []] (by simp) trivial ⟨⟨ints_new _ [1] (by simp) trivial, rfl⟩, ⟨ints_nil _, rfl⟩, trivial⟩) ex3R).mono ?_
  rintro e w9 ⟨rfl, _, _, hx9⟩
  have e9 : Ext (w7.setCell ⟨w1.heap.size, 1, none⟩ (.slice s8 ex3.length c8)) w9 := Ext.trans (by repeat (first | exact Ext.refl _ | assumption | apply Ext.alloc | apply Ext.drew)) hx9
  have hy9 := hy7.ext e9
  have hx10 := hx8.ext e9
  have hw9 := hw8.trans e9
  clear hs9 hy7 hx8 hs8 hs7 hy6 hx7 hw8 hx9 e9 hf7
  go_wp2_with fail
  refine (sameAll_c _ (hy9.ext (by repeat (first | exact Ext.refl _ | assumption | apply Ext.alloc | apply Ext.drew))) (rows_new (P := anyB) _ [_, _] [[2], []] (by simp) trivial ⟨⟨ints_new _ [2] (by simp) trivial, rfl⟩, ⟨ints_nil _, rfl⟩, trivial⟩)).mono ?_
  rintro e w10 ⟨rfl, hn10⟩
  have e10 : Ext w9 w10 := by
    obtain ⟨n, rfl⟩ := hn10
    exact (((Ext.refl w9).alloc _).alloc _).drewN n
  have hx11 := hx10.ext e10
  clear hn10 hy9 hx10
  rw [(sameAllI_iff _ _).2 rfl]
  go_wp2_with fail
  refine (equal_c _ (hx11.ext (by repeat (first | exact Ext.refl _ | assumption | apply Ext.alloc | apply Ext.drew))) (ints_new (P := anyB) _ [0, 1, 2, 3] rfl trivial)).mono ?_
  rintro e w11 ⟨rfl, hn11⟩
  have e11 : Ext w10 w11 := by
    obtain ⟨n, rfl⟩ := hn11
    exact ((Ext.refl w10).alloc _).drewN n
  clear hn11 hx11
  rw [(sameI_iff _ _).2 rfl]
  go_wp2_with fail
  go_ret
  exact ⟨rfl, (hw9.trans e10).trans e11⟩

end Go.Proofs.Ytjifihfkoflbiaa
