/-
  RefuteGrows: a refutation remains one if a clause is added to the clauses, or an implied clause in front of it.
-/
import Derived.Test.YtjifihfkoflbiaaLawA
import Derived.Test.YtjifihfkoflbiaaLaw42c
import Derived.Test.YtjifihfkoflbiaaRegA
namespace Go.Proofs.Ytjifihfkoflbiaa
open Go.ChangeShapes Go.WideShapes Go.ChangeAt Go.RowKit

section
variable {P P' P3 : Nat → Prop} {u v v3 : Value} {l p : List (List Int)} {c : List Int}

/-- what Grows asks, in plain words -/
theorem grows_plain {vars : Int} (h1 : checkI vars l = 0) (h2 : clauseI vars none c = 0) (h3 : (verifyI vars l p).2 = 0) (hs : l.length ≤ 40) (hp : p.length ≤ 20) :
    verifyI vars (c :: l) p = (0, 0) ∧ impliedI vars l c = (followsI l c, 0) ∧ verifyI vars l (c :: p) = if followsI l c = true then (0, 0) else (0, 18) := by
  obtain ⟨a1, a2, a3, a4⟩ := checkI_zero h1
  obtain ⟨V, rfl⟩ : ∃ V : Nat, vars = (V : Int) := ⟨vars.toNat, by omega⟩
  have hV : V ≤ 4096 := by omega
  obtain ⟨_, b2, b3, b4⟩ := verifyI_ok h3
  have hwl := (clausesI_iff hV).1 a4
  have hwc := (clauseI_iff hV).1 h2
  obtain ⟨g1, g2⟩ := gapI_neg.1 b4
  have hR : Refut V l p := ⟨hwl, badI_wl hV b3, g1, g2⟩
  have hck : checkI (V : Int) (c :: l) = 0 := by
    unfold checkI sizesI
    rw [if_neg (by simp; omega)]
    exact (clausesI_iff hV).2 (fun d hd => by rcases List.mem_cons.1 hd with rfl | hd; exact hwc; exact hwl d hd)
  have hb2 : badI (V : Int) 0 (c :: p) = none := badI_none.2 fun d hd => by
    rcases List.mem_cons.1 hd with rfl | hd
    · exact h2
    · exact badI_none.1 b3 d hd
  refine ⟨?_, ?_, ?_⟩
  · rw [verifyI_zero hck (by omega) b3, if_neg (by have := grows_wide hV hR hwc; omega)]
  · unfold impliedI; rw [if_neg (by simp [h1]), if_neg (by simp [h2])]
  · rw [verifyI_zero h1 (by simp; omega) hb2]
    by_cases hf : followsI l c = true
    · rw [if_pos hf, if_neg (by have := grows_front hV hR hwc hf; omega)]
    · rw [if_neg hf, grows_not (by simpa using hf)]; rfl

theorem own_one {α : Type} {R : Rel α} [Good R] {B : Nat} {e : TypeId} {PB : Nat → Prop} {w : World} {n : Nat} (hn : w.heap.size = n) (hB : B ≤ n) {u : Value} {x : α} (h1 : u.oneCell' = true) (hu : R PB w u x) (hP : ∀ k, PB k → k < n) :
    Own B e R PB (w.alloc (.cells #[u] e)) (.slice (some ⟨n, 0, none⟩) 1 1) [x] := by
  subst hn
  refine ⟨[u], rfl, ⟨rfl, .inr ⟨w.heap.size, 1, #[u], rfl, hB, heap_alloc_new w _, Nat.le_refl _, by simp [maxLen], rfl, rfl⟩⟩, fun k h h' => ?_⟩
  have : k = 0 := by simp at h; omega
  subst this
  exact ⟨h1, Good.weak (Good.ext hu (Ext.of_alloc w _)) fun k hk => ⟨hk, fun hc => by cases hc; exact Nat.lt_irrefl _ (hP _ hk)⟩⟩

set_option maxHeartbeats 2000000 in
theorem grows_w (vars : Int) (w : World) (hu : Rows P w u l) (hv : Rows P' w v p) (h3 : Ints P3 w v3 c) (hr : IRR l) (hrc : ∀ x ∈ c, IR x) (hvr : IR vars) :
    Calls Try.prog 6 #[.agg #[.int .i64 vars, u], v, v3] w fun e w' => e = .returned (.bool true) ∧ Ext w w' := by
  obtain ⟨ac, cc, rfl⟩ := h3.len
  cases hf : fewB vars l && few2B p
  · go_enter Try.func6, Try.ntmps6
    go_wp2_with (first | (go_at_call 11; refine (few_c _ _ (hu.ext (Ext.of_alloc _ _)) (hv.ext (Ext.of_alloc _ _))).mono ?_; rintro e w1 ⟨rfl, hx1⟩; rw [hf]) | (go_at_call 12; refine (awake_c _).mono ?_; rintro e w2 ⟨rfl, hx2⟩))
    go_ret
    exact ⟨rfl, ((Ext.of_alloc w _).trans hx1).trans hx2⟩
  · rw [Bool.and_eq_true] at hf
    have Hf : Hid ((fewB vars l && few2B p) = true) := by show _ = _; rw [hf.1, hf.2]; rfl
    have HF := Lib.hid hf
    clear hf
    by_cases hck : checkI vars l = 0
    · have Hck := Lib.hid hck
      obtain ⟨hv0, hv1, _, _⟩ := checkI_zero hck
      clear hck
      by_cases hcl : clauseI vars none c = 0
      · have Hcl := Lib.hid hcl
        clear hcl
        by_cases hve : (verifyI vars l p).2 = 0
        · have Hve := Lib.hid hve
          have hpl := grows_plain Hck.out Hcl.out hve (fewB_small HF.out.1 Hck.out).1 (few2B_small HF.out.2 (verifyI_ok hve).2.1).1
          have hl40 := (fewB_small HF.out.1 Hck.out).1
          have hp20 := (few2B_small HF.out.2 (verifyI_ok hve).2.1).1
          have HP := Lib.hid hpl
          have HR : Hid (IRR ([c] ++ l)) := fun d hd => by rcases List.mem_cons.1 hd with rfl | hd; exact hrc; exact hr d hd
          clear hve hpl
          go_enter Try.func6, Try.ntmps6
          go_wp2_with (first | (go_at_call 11; refine (few_c _ _ (hu.ext (Ext.of_alloc _ _)) (hv.ext (Ext.of_alloc _ _))).mono ?_; rintro e w1 ⟨rfl, hx1⟩; rw [Hf.out]; have hx := (Ext.of_alloc w _).trans hx1; have hu1 := hu.ext hx; have hv1 := hv.ext hx; have hc1 := h3.ext hx; have hb0 : w1.cell? ⟨w.heap.size, 0, none⟩ = some (.int .i64 vars) := hx1.cell (by simp); have hb1 : w1.cell? ⟨w.heap.size, 1, none⟩ = some u := hx1.cell (by simp)) | (go_at_call 21; refine (check_c _ _ hu1).mono ?_; rintro e w2 ⟨rfl, hx2⟩; rw [Hck.out]; have hd0 := hx2.cell hb0; have hd1 := hx2.cell hb1; have hu2 := hu1.ext hx2; have hv2 := hv1.ext hx2; have hc2 := hc1.ext hx2) | (go_at_call 22; refine (clause_c _ _ hc2 (by omega) (by omega)).mono ?_; rintro e w3 ⟨rfl, hn3⟩; rw [Hcl.out]; have hx3 : Ext w2 w3 := hn3.elim (fun n h => h ▸ Ext.of_drewN w2 n); clear hn3; have he0 := hx3.cell hd0; have he1 := hx3.cell hd1; have hu3 := hu2.ext hx3; have hv3 := hv2.ext hx3; have hc3 := hc2.ext hx3) | (go_at_call 13; refine (pverify_c _ _ hu3 hv3 hr).mono ?_; rintro e w4 ⟨rfl, hx4⟩; rw [Hve.out]; have hg0 := hx4.cell he0; have hg1 := hx4.cell he1; have hu4 := hu3.ext hx4; have hv4 := hv3.ext hx4; have hc4 := hc3.ext hx4))
          have hBl : w.heap.size < w4.heap.size := lt_of_cell hg0
          have hu5 : Arr (Arr RI) (fun k => k < w4.heap.size) w4 u l := Arr.old hu4
          have hc5 : Arr RI (fun k => k < w4.heap.size) w4 (.slice ac c.length cc) c := Arr.old hc4
          have hl24 : ([c].length + l.length) * 24 ≤ 140737488355328 := by simp; omega
          have hkeep : ∀ (W : World) (n : Nat), Ext w4 W → W.heap.size = n → Own w4.heap.size 37 (Arr RI) (fun k => k < w4.heap.size) (W.alloc (.cells #[.slice ac c.length cc] 37)) (.slice (some ⟨n, 0, none⟩) 1 1) [c] := fun W n hW hn =>
            own_one hn (hn ▸ hW.size) rfl (hc5.ext hW) (fun k hk => hn ▸ Nat.lt_of_lt_of_le hk hW.size)
          have hPP : ∀ n, w4.heap.size ≤ n → ∀ (W : World) b, b < w4.heap.size → b < W.heap.size → b < w4.heap.size ∧ (Value.slice (some ⟨n, 0, none⟩) 1 1).ownBlock ≠ some b := fun n hn W b hb _ => ⟨hb, fun hc => by
            cases hc
            exact Nat.not_lt.2 hn hb⟩
          have hblk1 : (((w4.alloc (.cells #[.slice ac c.length cc] 37)).alloc (.cells #[.int .i64 0, .slice none 0 0] 24)).drew).heap[w4.heap.size + 1]? = some (.cells #[.int .i64 0, .slice none 0 0] 24 (0, 0)) := by
            have h := World.alloc_heap_new (w4.alloc (.cells #[.slice ac c.length cc] 37)) (.cells #[.int .i64 0, .slice none 0 0] 24)
            rw [World.size_alloc] at h
            exact h
          have hblk2 : (((w4.alloc (.cells #[.int .i64 0, .slice none 0 0] 24)).alloc (.cells #[.slice ac c.length cc] 37)).drew).heap[w4.heap.size]? = some (.cells #[.int .i64 0, .slice none 0 0] 24 (0, 0)) :=
            (Below.block (Ext.of_alloc (w4.alloc (.cells #[.int .i64 0, .slice none 0 0] 24)) _) w4.heap.size (by simp)).trans (World.alloc_heap_new _ _)
          refine wp_then (fun a0 a w' => ∃ (n m : Nat) (s9 : Option Addr) (c9 : Nat), Wide w4 w.heap.size (.int .i64 vars) u n (.int .i64 vars) (.slice s9 (l.length + 1) c9) ([c] ++ l) w' ∧ a = { tmps := ((((((((a0.tmps.setIfInBounds 42 (.pointer (some ⟨w.heap.size, 0, none⟩))).setIfInBounds 43 (.int .i64 vars)).setIfInBounds 44 (.slice ac c.length cc)).setIfInBounds 45 (.slice (some ⟨m, 0, none⟩) 1 1)).setIfInBounds 46 (.pointer (some ⟨w.heap.size, 1, none⟩))).setIfInBounds 47 u).setIfInBounds 48 (.slice s9 (l.length + 1) c9)).setIfInBounds 49 (.agg #[.int .i64 vars, .slice s9 (l.length + 1) c9])).setIfInBounds 9 (.pointer (some ⟨n, 0, none⟩)), defers := [] }) ?_ ?_
          · go_region_held3 (fun w' => Ext w4 w' ∧ w'.cell? ⟨w.heap.size, 0, none⟩ = some (.int .i64 vars) ∧ w'.cell? ⟨w.heap.size, 1, none⟩ = some u)
              (first | assumption | exact ⟨(Ext.refl _).drew, hg0, hg1⟩ | exact keepS (by assumption) (Ext.of_alloc _ _) | exact keepB (by assumption) hBl (by assumption) | exact keepS_set (by assumption) hBl (by simp; try omega) | exact keepS_set (keepS_set (by assumption) hBl (by simp; try omega)) hBl (by simp; try omega))
              (first | (refine r_app (v := Value.slice (some ⟨_, 0, none⟩) 1 1) (yv := u) elR rfl rfl (by first | exact hkeep _ _ (by repeat (first | exact Ext.refl _ | assumption | apply Ext.alloc | apply Ext.drew)) (by simp) | exact (hkeep w4 _ (Ext.refl _) (by simp)).ext (by repeat (first | exact Ext.refl _ | assumption | apply Ext.alloc | apply Ext.drew)) | exact (hkeep (w4.alloc _) _ (Ext.of_alloc _ _) (by simp)).ext (by repeat (first | exact Ext.refl _ | assumption | apply Ext.alloc | apply Ext.drew))) (hu5.ext (by repeat (first | exact Ext.refl _ | assumption | apply Ext.alloc | apply Ext.drew))) (hPP _ (by omega) _) (by simp; try omega) hl24 (by decide) ?_; intro v9 w9 ho9 hb9 hg9 ha9; (try (obtain ⟨q0, q1, q2, q3⟩ := two_kept hg9 hblk1 (by simp [Value.ownBlock]))); (try (obtain ⟨q0, q1, q2, q3⟩ := two_kept hg9 hblk2 (by simp [Value.ownBlock]))); obtain ⟨s9, c9, rfl⟩ := ho9.len; have hS9 := keepB (w0 := w4) (B := w.heap.size) (x := .int .i64 vars) (y := u) (by assumption) hBl hb9))
            all_goals (
              dsimp only [Exit.then]
              have hlen : ([c] ++ l).length = l.length + 1 := by simp
              first
              | (have hW := wide_set (x' := .int .i64 vars) hS9 hBl (Nat.le_refl _) q0 q1 ho9 (by rcases ha9 with h | h <;> rw [h] <;> simp [Value.ownBlock] <;> omega)
                 rw [hlen] at hW
                 exact ⟨_, _, s9, c9, hW, rfl⟩)
              | (have hW := wide_set (n := w4.heap.size + 1) (x' := .int .i64 vars) hS9 hBl (Nat.le_succ _) q0 q1 ho9 (by rcases ha9 with h | h <;> rw [h] <;> simp [Value.ownBlock] <;> omega)
                 rw [hlen] at hW
                 exact ⟨_, _, s9, c9, hW, rfl⟩)
              | (have hW := wide_new (x' := .int .i64 vars) (t := 24) hS9 ho9
                 rw [hlen] at hW
                 exact ⟨_, _, s9, c9, hW, rfl⟩))
          · clear hblk1 hblk2 hPP hkeep
            rintro a W5 ⟨n5, m5, s9, c9, hW, rfl⟩
            simp only [List.setIfInBounds_toArray, List.set_cons_succ, List.set_cons_zero]
            have e5 := hW.ext
            have k0 := hW.b0
            have k1 := hW.b1
            have m0 := hW.n0
            have m1 := hW.n1
            have hrw := hW.rows
            have hu6 := hu4.ext e5
            have hv6 := hv4.ext e5
            have hc6 := hc4.ext e5
            have hxx : Ext w W5 := ((((hx.trans hx2).trans hx3).trans hx4).trans e5)
            clear hW
            go_wp2_with (first | (go_at_call 13; refine (pverify_k HP.out.1 _ hrw hv6 HR.out).mono ?_; rintro e w6 ⟨rfl, _, hv7, hx6⟩; have k2 := hx6.cell k0; have k3 := hx6.cell k1; have hu7 := hu6.ext hx6; have hc7 := hc6.ext hx6) | (go_at_call 23; refine (pimplied_k HP.out.2.1 _ hu7 hc7 hr).mono ?_; rintro e w7 ⟨rfl, hu8, hc8, hx7⟩; have k4 := hx7.cell k2; have k5 := hx7.cell k3; have hv8 := hv7.ext hx7))
            have hp24 : ([c].length + p.length) * 24 ≤ 140737488355328 := by simp; omega
            have hv9 : Arr (Arr RI) (fun k => k < w7.heap.size) w7 v p := Arr.old hv8
            have hc9 : Arr RI (fun k => k < w7.heap.size) w7 (.slice ac c.length cc) c := Arr.old hc8
            have hkeep : ∀ (W : World) (n : Nat), Ext w7 W → W.heap.size = n → Own w7.heap.size 37 (Arr RI) (fun k => k < w7.heap.size) (W.alloc (.cells #[.slice ac c.length cc] 37)) (.slice (some ⟨n, 0, none⟩) 1 1) [c] := fun W n hW hn =>
              own_one hn (hn ▸ hW.size) rfl (hc9.ext hW) (fun k hk => hn ▸ Nat.lt_of_lt_of_le hk hW.size)
            have hPP : ∀ n, w7.heap.size ≤ n → ∀ (W : World) b, b < w7.heap.size → b < W.heap.size → b < w7.heap.size ∧ (Value.slice (some ⟨n, 0, none⟩) 1 1).ownBlock ≠ some b := fun n hn W b hb _ => ⟨hb, fun hc => by
              cases hc
              exact Nat.not_lt.2 hn hb⟩
            have hBl7 : w.heap.size < w7.heap.size := lt_of_cell k4
            have HP3 := HP.out.2.2
            cases hfl : followsI l c
            · rw [hfl] at HP3
              simp only [Bool.false_eq_true, if_false] at HP3
              go_region_held3 (fun w' => Ext w7 w' ∧ w'.cell? ⟨w.heap.size, 0, none⟩ = some (.int .i64 vars) ∧ w'.cell? ⟨w.heap.size, 1, none⟩ = some u)
                (first | assumption | exact ⟨(Ext.refl _).drew, k4, k5⟩ | exact keepS (by assumption) (Ext.of_alloc _ _) | exact keepB (by assumption) hBl7 (by assumption) | exact keepS (by assumption) (by assumption))
                (first | (refine r_app (v := Value.slice (some ⟨_, 0, none⟩) 1 1) (yv := v) elR rfl rfl (hkeep _ _ (by repeat (first | exact Ext.refl _ | assumption | apply Ext.alloc | apply Ext.drew)) (by simp)) (hv9.ext (by repeat (first | exact Ext.refl _ | assumption | apply Ext.alloc | apply Ext.drew))) (hPP _ (by omega) _) (by simp; try omega) hp24 (by decide) ?_; intro v10 w10 ho10 hb10 hg10 ha10; have hS10 := keepB (w0 := w7) (B := w.heap.size) (x := .int .i64 vars) (y := u) (by assumption) hBl7 hb10) | (go_at_call 13; refine (pverify_k HP3 _ (hu8.ext hS10.1) ho10.arr.any hr).mono ?_; rintro e w11 ⟨rfl, _, _, hx11⟩))
              have hfin : Ext w w11 := ((((hxx.trans hx6).trans hx7).trans hS10.1).trans hx11)
              clear hPP hkeep hg10 ha10 hb10 ho10
              go_wp2_with (first | (go_at_call 12; refine (awake_c _).mono ?_; rintro e w12 ⟨rfl, hx12⟩))
              go_ret
              exact ⟨rfl, hfin.trans hx12⟩
            · rw [hfl] at HP3
              simp only [if_true] at HP3
              go_region_held3 (fun w' => Ext w7 w' ∧ w'.cell? ⟨w.heap.size, 0, none⟩ = some (.int .i64 vars) ∧ w'.cell? ⟨w.heap.size, 1, none⟩ = some u)
                (first | assumption | exact ⟨(Ext.refl _).drew, k4, k5⟩ | exact keepS (by assumption) (Ext.of_alloc _ _) | exact keepB (by assumption) hBl7 (by assumption) | exact keepS (by assumption) (by assumption))
                (first | (refine r_app (v := Value.slice (some ⟨_, 0, none⟩) 1 1) (yv := v) elR rfl rfl (hkeep _ _ (by repeat (first | exact Ext.refl _ | assumption | apply Ext.alloc | apply Ext.drew)) (by simp)) (hv9.ext (by repeat (first | exact Ext.refl _ | assumption | apply Ext.alloc | apply Ext.drew))) (hPP _ (by omega) _) (by simp; try omega) hp24 (by decide) ?_; intro v10 w10 ho10 hb10 hg10 ha10; have hS10 := keepB (w0 := w7) (B := w.heap.size) (x := .int .i64 vars) (y := u) (by assumption) hBl7 hb10) | (go_at_call 13; refine (pverify_k HP3 _ (hu8.ext hS10.1) ho10.arr.any hr).mono ?_; rintro e w11 ⟨rfl, _, _, hx11⟩))
              have hfin : Ext w w11 := ((((hxx.trans hx6).trans hx7).trans hS10.1).trans hx11)
              clear hPP hkeep hg10 ha10 hb10 ho10
              go_wp2_with (first | (go_at_call 12; refine (awake_c _).mono ?_; rintro e w12 ⟨rfl, hx12⟩))
              go_ret
              exact ⟨rfl, hfin.trans hx12⟩
        · go_enter Try.func6, Try.ntmps6
          go_wp2_with (first | (go_at_call 11; refine (few_c _ _ (hu.ext (Ext.of_alloc _ _)) (hv.ext (Ext.of_alloc _ _))).mono ?_; rintro e w1 ⟨rfl, hx1⟩; rw [Hf.out]; have hx := (Ext.of_alloc w _).trans hx1; have hu1 := hu.ext hx; have hv1 := hv.ext hx; have hc1 := h3.ext hx; have hb0 : w1.cell? ⟨w.heap.size, 0, none⟩ = some (.int .i64 vars) := hx1.cell (by simp); have hb1 : w1.cell? ⟨w.heap.size, 1, none⟩ = some u := hx1.cell (by simp)) | (go_at_call 21; refine (check_c _ _ hu1).mono ?_; rintro e w2 ⟨rfl, hx2⟩; rw [Hck.out]; have hd0 := hx2.cell hb0; have hd1 := hx2.cell hb1; have hu2 := hu1.ext hx2; have hv2 := hv1.ext hx2; have hc2 := hc1.ext hx2) | (go_at_call 22; refine (clause_c _ _ hc2 (by omega) (by omega)).mono ?_; rintro e w3 ⟨rfl, hn3⟩; rw [Hcl.out]; have hx3 : Ext w2 w3 := hn3.elim (fun n h => h ▸ Ext.of_drewN w2 n); clear hn3; have he0 := hx3.cell hd0; have he1 := hx3.cell hd1; have hu3 := hu2.ext hx3; have hv3 := hv2.ext hx3; have hc3 := hc2.ext hx3) | (go_at_call 13; refine (pverify_c _ _ hu3 hv3 hr).mono ?_; rintro e w4 ⟨rfl, hx4⟩) | (go_at_call 12; refine (awake_c _).mono ?_; rintro e w12 ⟨rfl, hx12⟩))
          go_ret
          exact ⟨rfl, (((hx.trans hx2).trans hx3).trans hx4).trans hx12⟩
      · go_enter Try.func6, Try.ntmps6
        go_wp2_with (first | (go_at_call 11; refine (few_c _ _ (hu.ext (Ext.of_alloc _ _)) (hv.ext (Ext.of_alloc _ _))).mono ?_; rintro e w1 ⟨rfl, hx1⟩; rw [Hf.out]; have hx := (Ext.of_alloc w _).trans hx1; have hu1 := hu.ext hx; have hv1 := hv.ext hx; have hc1 := h3.ext hx; have hb0 : w1.cell? ⟨w.heap.size, 0, none⟩ = some (.int .i64 vars) := hx1.cell (by simp); have hb1 : w1.cell? ⟨w.heap.size, 1, none⟩ = some u := hx1.cell (by simp)) | (go_at_call 21; refine (check_c _ _ hu1).mono ?_; rintro e w2 ⟨rfl, hx2⟩; rw [Hck.out]; have hd0 := hx2.cell hb0; have hd1 := hx2.cell hb1; have hu2 := hu1.ext hx2; have hv2 := hv1.ext hx2; have hc2 := hc1.ext hx2) | (go_at_call 22; refine (clause_c _ _ hc2 (by omega) (by omega)).mono ?_; rintro e w3 ⟨rfl, hn3⟩; have hx3 : Ext w2 w3 := hn3.elim (fun n h => h ▸ Ext.of_drewN w2 n); clear hn3; have he0 := hx3.cell hd0; have he1 := hx3.cell hd1; have hu3 := hu2.ext hx3; have hv3 := hv2.ext hx3; have hc3 := hc2.ext hx3) | (go_at_call 12; refine (awake_c _).mono ?_; rintro e w12 ⟨rfl, hx12⟩))
        go_ret
        exact ⟨rfl, ((hx.trans hx2).trans hx3).trans hx12⟩
    · go_enter Try.func6, Try.ntmps6
      go_wp2_with (first | (go_at_call 11; refine (few_c _ _ (hu.ext (Ext.of_alloc _ _)) (hv.ext (Ext.of_alloc _ _))).mono ?_; rintro e w1 ⟨rfl, hx1⟩; rw [Hf.out]; have hx := (Ext.of_alloc w _).trans hx1; have hu1 := hu.ext hx; have hv1 := hv.ext hx; have hc1 := h3.ext hx; have hb0 : w1.cell? ⟨w.heap.size, 0, none⟩ = some (.int .i64 vars) := hx1.cell (by simp); have hb1 : w1.cell? ⟨w.heap.size, 1, none⟩ = some u := hx1.cell (by simp)) | (go_at_call 21; refine (check_c _ _ hu1).mono ?_; rintro e w2 ⟨rfl, hx2⟩; have hd0 := hx2.cell hb0; have hd1 := hx2.cell hb1; have hu2 := hu1.ext hx2; have hv2 := hv1.ext hx2; have hc2 := hc1.ext hx2) | (go_at_call 12; refine (awake_c _).mono ?_; rintro e w12 ⟨rfl, hx12⟩))
      go_ret
      exact ⟨rfl, (hx.trans hx2).trans hx12⟩
end

end Go.Proofs.Ytjifihfkoflbiaa
