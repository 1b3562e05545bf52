/-
  RefuteShrinks: a trimmed refutation is one, a part of the refutation in its order, and no clause can be left out of it; so is its core.
-/
import Derived.Test.YtjifihfkoflbiaaLawA
import Derived.Test.YtjifihfkoflbiaaLaw42c
import Derived.Test.YtjifihfkoflbiaaRegA
namespace Go.Proofs.Ytjifihfkoflbiaa
open Go.ChangeShapes Go.WideShapes Go.ChangeAt Go.RowKit

theorem bulk_le {l : List (List Int)} (h1 : l.length ≤ 100) (h2 : ∀ x ∈ l, x.length ≤ 20) : bulkR l ≤ 2100 := by
  have := flatten_small h2
  unfold bulkR
  omega
theorem sub_cons {α : Type} {y z : α} {r s : List α} (h : List.Sublist (y :: r) (z :: s)) (hne : z ≠ y) : List.Sublist (y :: r) s := by
  cases h with
  | cons _ h => exact h
  | cons_cons _ _ => exact absurd rfl hne
theorem sub_same {α : Type} {y : α} {r s : List α} (h : List.Sublist (y :: r) (y :: s)) : List.Sublist r s := List.cons_sublist_cons.1 h

/-- what Shrinks asks, in plain words -/
structure ShrF (vars : Int) (l p X : List (List Int)) (K : List Int) : Prop where
  ver : verifyI vars l p = (0, 0)
  verX : verifyI vars l X = (0, 0)
  trim : trimI l p = X
  core : coreI l X = K
  refX : refutesI l X = true
  sub : List.Sublist X p
  ne : 0 < X.length
  min : ∀ i, i + 1 < X.length → refutesI l (remI X i) = false
  rng : ∀ y ∈ K, 0 ≤ y ∧ y < l.length
  inc : K.Pairwise (· < ·)
  refK : refutesI (chosenI l K) X = true
  minK : ∀ i, i < K.length → refutesI (chosenI l (remI K i)) X = false
theorem shr_plain {vars : Int} {l p : List (List Int)} (h1 : checkI vars l = 0) (h3 : (verifyI vars l p).2 = 0) (hp : p.length ≤ 20) : ShrF vars l p (trimI l p) (coreI l (trimI l p)) := by
  obtain ⟨a1, a2, a3, a4⟩ := checkI_zero h1
  obtain ⟨V, rfl⟩ : ∃ V : Nat, vars = (V : Int) := ⟨vars.toNat, by omega⟩
  have hV : V ≤ 4096 := by omega
  obtain ⟨_, b2, b3, b4⟩ := verifyI_ok h3
  have hwl := (clausesI_iff hV).1 a4
  obtain ⟨g1, g2⟩ := gapI_neg.1 b4
  have hR : Refut V l p := ⟨hwl, badI_wl hV b3, g1, g2⟩
  obtain ⟨t1, t2, t3⟩ := trim_facts hV hR
  obtain ⟨k1, k2, k3⟩ := core_facts hV t1
  have hb : badI (V : Int) 0 (trimI l p) = none := badI_none.2 fun c hc => badI_none.1 b3 c (t2.subset hc)
  have hneg := gapI_neg.2 ⟨t1.ok, t1.last⟩
  have hup : (upI l.length).Pairwise (· < ·) := by
    unfold upI
    rw [List.pairwise_map]
    exact List.pairwise_lt_range.imp fun h => by simp only [Int.ofNat_eq_natCast]; omega
  refine ⟨by rw [verifyI_zero h1 (by omega) b3, if_neg (by omega)], by rw [verifyI_zero h1 (by have := t2.length_le; omega) hb, if_neg (by omega)], rfl, rfl, refutesI_iff.2 ⟨t1.ok, t1.last⟩, t2, ?_, t3, fun y hy => upI_mem (k1.subset hy), hup.sublist k1, k2, k3⟩
  cases hX : trimI l p with
  | nil => have := t1.last; rw [hX, lastBad_nil] at this; cases this
  | cons c X => simp

section
variable {P P' : Nat → Prop} {u v : Value} {l p : List (List Int)}

set_option maxRecDepth 1000000 in
set_option maxHeartbeats 1200000 in
theorem shrinks_w (vars : Int) (w : World) (hu : Rows P w u l) (hv : Rows P' w v p) (hr : IRR l) :
    Calls Try.prog 7 #[.agg #[.int .i64 vars, u], v] w fun e w' => e = .returned (.bool true) ∧ Ext w w' := by
  have hle := hu.le
  have hlep := hv.le
  have hb0' : ∀ w1, Ext (w.alloc (.cells #[.int .i64 vars, u] 24)) w1 → w1.cell? ⟨w.heap.size, 0, none⟩ = some (.int .i64 vars) ∧ w1.cell? ⟨w.heap.size, 1, none⟩ = some u := fun w1 hx1 => ⟨hx1.cell (by simp), hx1.cell (by simp)⟩
  have HB := Lib.hid hb0'
  clear hb0'
  cases hf : fewB vars l && few2B p
  · go_enter Try.func7, Try.ntmps7
    go_wp2_with (first | (go_at_call 11; refine (few_c _ _ (hu.ext (Ext.of_alloc _ _)) (hv.ext (Ext.of_alloc _ _))).mono ?_; rintro e w1 ⟨rfl, hx1⟩; rw [hf]) | (go_at_call 12; refine (awake_c _).mono ?_; rintro e w2 ⟨rfl, hx2⟩))
    go_ret
    exact ⟨rfl, ((Ext.of_alloc w _).trans hx1).trans hx2⟩
  · rw [Bool.and_eq_true] at hf
    have Hf : Hid ((fewB vars l && few2B p) = true) := by show _ = _; rw [hf.1, hf.2]; rfl
    have HF := Lib.hid hf
    clear hf
    by_cases h16 : l.length ≤ 16
    · have hd16 : decide ((16 : Int) < (l.length : Int)) = false := decide_eq_false (by omega)
      by_cases hck : checkI vars l = 0
      · have Hck := Lib.hid hck
        by_cases hve : (verifyI vars l p).2 = 0
        · have hp20 := (few2B_small HF.out.2 (verifyI_ok hve).2.1)
          have hl20 := (fewB_small HF.out.1 hck)
          have hS := shr_plain hck hve hp20.1
          obtain ⟨X, hX⟩ : ∃ X, X = trimI l p := ⟨_, rfl⟩
          obtain ⟨K, hK⟩ : ∃ K, K = coreI l X := ⟨_, rfl⟩
          rw [← hX, ← hK] at hS
          have hS' := Lib.hid hS
          have hXl : X.length ≤ 20 := Nat.le_trans hS.sub.length_le hp20.1
          have hKl : K.length ≤ l.length := by
            have := (prune_sub (ok := fun x => refutesI (chosenI l x) X) l.length (upI l.length)).2
            rw [upI_length] at this; rw [hK]; exact this
          have hne := hS.ne
          have hsl := hS.sub.length_le
          have hdX : ¬ p.length < X.length := by omega
          have hX20 := Lib.hid (fun x (hx : x ∈ X) => hp20.2 x (hS.sub.subset hx))
          have hL20 := Lib.hid hl20.2.1
          have hbl := bulk_le (l := l) (by omega) hL20.out
          have hbX := bulk_le (l := X) (by omega) hX20.out
          clear hck hve hp20 hl20 hS hX hK
          go_enter Try.func7, Try.ntmps7
          go_wp2_with (first | (go_at_call 11; refine (few_c _ _ (hu.ext (Ext.of_alloc _ _)) (hv.ext (Ext.of_alloc _ _))).mono ?_; rintro e w1 ⟨rfl, hx1⟩; rw [Hf.out]; have hx := (Ext.of_alloc w _).trans hx1; have hu1 := hu.ext hx; have hv1 := hv.ext hx; obtain ⟨hb0, hb1⟩ := HB.out w1 hx1) | ((with_reducible refine w_len elR.und ?_ ?_ hu1.len ?_); (· rfl); (· rfl); simp only [Act.put, List.setIfInBounds_toArray, List.set_cons_succ, List.set_cons_zero]) | (go_at_call 21; refine (check_c _ _ hu1).mono ?_; rintro e w2 ⟨rfl, hx2⟩; rw [Hck.out]; have hc0 := hx2.cell hb0; have hc1 := hx2.cell hb1; have hu2 := hu1.ext hx2; have hv2 := hv1.ext hx2) | (go_at_call 15; refine (ptrim_k hS'.out.ver hS'.out.trim _ hu2 hv2 hr).mono ?_; rintro e w3 ⟨x3, rfl, hX3, hu3, hv3, hx3⟩; have hd0 := hx3.cell hc0; have hd1 := hx3.cell hc1) | (go_at_call 18; refine (pcore_k hS'.out.verX hS'.out.core _ hu3 hX3 hr).mono ?_; rintro e w4 ⟨x4, rfl, hK4, hu4, hX4, hx4⟩; have he0 := hx4.cell hd0; have he1 := hx4.cell hd1; have hv4 := Good.ext (R := Rows) hv3 hx4) | (go_at_call 24; refine (refutes_c _ hu4 hX4 (by omega)).mono ?_; rintro e w5 ⟨rfl, hx5⟩; rw [hS'.out.refX]; have hg0 := hx5.cell he0; have hg1 := hx5.cell he1; have hu5 := Good.ext (R := Rows) hu4 hx5; have hX5 := Good.ext (R := Rows) hX4 hx5; have hv5 := Good.ext (R := Rows) hv4 hx5; have hK5 := Good.ext (R := Ints) hK4 hx5) | ((with_reducible refine w_len elR.und ?_ ?_ (Arr.len hX5) ?_); (· rfl); (· rfl); simp only [Act.put, List.setIfInBounds_toArray, List.set_cons_succ, List.set_cons_zero]) | ((with_reducible refine w_len elR.und ?_ ?_ (Arr.len hv5) ?_); (· rfl); (· rfl); simp only [Act.put, List.setIfInBounds_toArray, List.set_cons_succ, List.set_cons_zero]))
          have hxx : Ext w w5 := (((hx.trans hx2).trans hx3).trans hx4).trans hx5
          have hBl : w.heap.size < w5.heap.size := lt_of_cell hg0
          clear hx1 hx2 hx3 hx4 hx5 hb0 hb1 hc0 hc1 hd0 hd1 he0 he1 hu1 hu2 hu3 hu4 hv1 hv2 hv3 hv4 hX3 hX4 hK4 hx
          have hleX := Arr.le hX5
          have hleK := Arr.le hK5
          go_loopw [9, 66] (fun a i wr => ∃ (at' j : Nat), j ≤ X.length ∧ at' ≤ p.length ∧ a = .int .i64 (at' : Int) ∧ i = .int .i64 (j : Int) ∧ Hid (List.Sublist (X.drop j) (p.drop at')) ∧ Ext w5 wr) (fun _ i _ => X.length - (intOf i).toNat)
          case atStart => exact ⟨0, 0, Nat.zero_le _, Nat.zero_le _, rfl, rfl, hS'.out.sub, Ext.refl _⟩
          case round =>
            obtain ⟨at', j, hj, ha, rfl, rfl, hsub, hxr⟩ := hrel
            have hX6 := Good.ext (R := Rows) hX5 hxr
            by_cases hlt : j < X.length
            · have hsj := Lib.hid (List.drop_eq_getElem_cons hlt)
              go_wp2_with (first | ((with_reducible refine w_ix elR ?_ ?_ ?_ ?_ ?_ hX6 hlt ?_); (· rfl); (· exact fun _ => rfl); (· exact fun _ => rfl); (· rfl); (· rfl); intro _ y hyy h1y; simp only [Act.put, List.setIfInBounds_toArray, List.set_cons_succ, List.set_cons_zero]))
              go_loopw [9] (fun a wr2 => ∃ (b : Nat), b ≤ p.length ∧ a = .int .i64 (b : Int) ∧ Hid (List.Sublist (X.drop j) (p.drop b)) ∧ Ext w5 wr2 ∧ Ext wr wr2) (fun a _ => p.length - (intOf a).toNat)
              case atStart => exact ⟨at', ha, rfl, hsub, hxr, Ext.refl _⟩
              case round =>
                obtain ⟨b, hb, rfl, hsb, hxs, hxs2⟩ := hrel
                have hyy2 : Ints _ wr y X[j] := Good.ext (R := Ints) hyy hxs2
                have hv7 := Good.ext (R := Rows) hv5 hxs
                by_cases hbl2 : b < p.length
                · have hpb := Lib.hid (List.drop_eq_getElem_cons hbl2)
                  cases hsm : sameI p[b] X[j]
                  · have hne2 : Hid (p[b] ≠ X[j]) := fun e => by rw [(sameI_iff _ _).2 e] at hsm; cases hsm
                    go_wp2_with (first | ((with_reducible refine w_len elR.und ?_ ?_ (Arr.len hv7) ?_); (· rfl); (· rfl); simp only [Act.put, List.setIfInBounds_toArray, List.set_cons_succ, List.set_cons_zero]) | ((with_reducible refine w_ix elR ?_ ?_ ?_ ?_ ?_ hv7 hbl2 ?_); (· rfl); (· exact fun _ => rfl); (· exact fun _ => rfl); (· rfl); (· rfl); intro _ z hzz h1z; simp only [Act.put, List.setIfInBounds_toArray, List.set_cons_succ, List.set_cons_zero]) | (go_at_call 25; refine (same_c _ hzz hyy2).mono ?_; rintro e w6 ⟨rfl, hn6⟩; (have hx6 : Ext _ w6 := hn6.elim (fun n h => h ▸ Ext.of_drewN _ n)); clear hn6; rw [hsm]))
                    go_roundw
                    case rel => exact ⟨b + 1, hbl2, by go_num, by
                      have h1 := hsb.out
                      rw [hsj.out, hpb.out] at h1
                      show List.Sublist (X.drop j) (p.drop (b + 1))
                      rw [hsj.out]
                      exact sub_cons h1 hne2.out, hxs.trans hx6, hxs2.trans hx6⟩
                    case measure => simp [intOf]; omega
                  · have heq : Hid (p[b] = X[j]) := (sameI_iff _ _).1 hsm
                    go_wp2_with (first | ((with_reducible refine w_len elR.und ?_ ?_ (Arr.len hv7) ?_); (· rfl); (· rfl); simp only [Act.put, List.setIfInBounds_toArray, List.set_cons_succ, List.set_cons_zero]) | ((with_reducible refine w_ix elR ?_ ?_ ?_ ?_ ?_ hv7 hbl2 ?_); (· rfl); (· exact fun _ => rfl); (· exact fun _ => rfl); (· rfl); (· rfl); intro _ z hzz h1z; simp only [Act.put, List.setIfInBounds_toArray, List.set_cons_succ, List.set_cons_zero]) | (go_at_call 25; refine (same_c _ hzz hyy2).mono ?_; rintro e w6 ⟨rfl, hn6⟩; (have hx6 : Ext _ w6 := hn6.elim (fun n h => h ▸ Ext.of_drewN _ n)); clear hn6; rw [hsm]))
                    go_roundw
                    case rel => exact ⟨b + 1, j + 1, hlt, hbl2, by go_num, by go_num, by
                      have h1 := hsb.out
                      rw [hsj.out, hpb.out, heq.out] at h1
                      exact sub_same h1, hxs.trans hx6⟩
                    case measure => simp [intOf]; omega
                · exfalso
                  have := hsb.out
                  have e0 : p.drop b = [] := List.drop_eq_nil_of_le (by omega)
                  rw [hsj.out, e0] at this
                  cases this
            · obtain rfl : j = X.length := by omega
              clear hsub hX6
              have hat : ¬ p.length < at' := by omega
              go_wp2_with (first | ((with_reducible refine w_len elR.und ?_ ?_ (Arr.len (Good.ext (R := Rows) hv5 hxr)) ?_); (· rfl); (· rfl); simp only [Act.put, List.setIfInBounds_toArray, List.set_cons_succ, List.set_cons_zero]) | ((with_reducible refine w_len elR.und ?_ ?_ (Arr.len (Good.ext (R := Rows) hX5 hxr)) ?_); (· rfl); (· rfl); simp only [Act.put, List.setIfInBounds_toArray, List.set_cons_succ, List.set_cons_zero]))
              have hX6 := Good.ext (R := Rows) hX5 hxr
              have hu6 := Good.ext (R := Rows) hu5 hxr
              have hK6 := Good.ext (R := Ints) hK5 hxr
              have hq0 := hxr.cell hg0
              have hq1 := hxr.cell hg1
              have hww := hxx.trans hxr
              have hBw : w.heap.size < wr.heap.size := lt_of_cell hq0
              clear hX5 hu5 hK5 hv5 hg0 hg1 hxr hBl
              obtain ⟨W6, hW6⟩ : ∃ W6, W6 = wr := ⟨_, rfl⟩
              rw [← hW6] at hX6 hu6 hK6 hq0 hq1 hww hBw ⊢
              clear hW6
              have hX24 : X.length * 24 ≤ 140737488355328 := by omega
              go_loopw [95] (fun i wr => ∃ (j : Nat), j + 1 ≤ X.length ∧ i = .int .i64 (j : Int) ∧ Ext W6 wr) (fun i _ => X.length - (intOf i).toNat)
              case atStart => exact ⟨0, hne, rfl, Ext.refl _⟩
              case round =>
                obtain ⟨j, hj, rfl, hxr⟩ := hrel
                have hX7 := Good.ext (R := Rows) hX6 hxr
                have hu7 := Good.ext (R := Rows) hu6 hxr
                have hq2 := hxr.cell hq0
                have hq3 := hxr.cell hq1
                have hBr : w.heap.size < wr.heap.size := lt_of_cell hq2
                by_cases hlt : j + 1 < X.length
                · have hjX : j < X.length := by omega
                  have hjl : (j : Int) < (X.length : Int) - 1 := by omega
                  have hmin := hS'.out.min j hlt
                  have hwr : IntKind.i64.wrap ((j : Int) + 1) = (j : Int) + 1 := by simp [IntKind.wrap, IntKind.signed, IntKind.bits]; omega
                  have hbr : bulkR l + bulkR (remI X j) ≤ 500000 := by have := remI_bulk (l := X) j; omega
                  go_wp2_with fail
                  refine wp_then (fun a0 a w' => ∃ (v7 v8 : Value), (Ext wr w' ∧ w'.cell? ⟨w.heap.size, 0, none⟩ = some (.int .i64 vars) ∧ w'.cell? ⟨w.heap.size, 1, none⟩ = some u) ∧ a = { tmps := ((((((((a0.tmps.setIfInBounds 98 (.pointer (some ⟨w.heap.size, 1, none⟩))).setIfInBounds 99 u).setIfInBounds 100 x3).setIfInBounds 101 v7).setIfInBounds 102 (.int .i64 (j : Int))).setIfInBounds 103 (.int .i64 (j : Int))).setIfInBounds 104 (.int .i64 ((j : Int) + 1))).setIfInBounds 105 v8).setIfInBounds 106 (.bool false), defers := [] }) ?_ ?_
                  · go_region_held3 (fun w' => Ext wr w' ∧ w'.cell? ⟨w.heap.size, 0, none⟩ = some (.int .i64 vars) ∧ w'.cell? ⟨w.heap.size, 1, none⟩ = some u)
                      (first | assumption | exact ⟨(Ext.refl _).drew, hq2, hq3⟩ | exact keepS (by assumption) (by assumption) | exact keepB (by assumption) hBr (by assumption))
                      (first | (go_at_call 27; refine (rclone_c _ (hX7.ext (by repeat (first | exact Ext.refl _ | assumption | apply Ext.alloc | apply Ext.drew))) hX24).mono ?_; rintro e w7 ⟨v7, rfl, ho7, hx7⟩; (have hS7 : Ext wr w7 ∧ w7.cell? ⟨w.heap.size, 0, none⟩ = some (.int .i64 vars) ∧ w7.cell? ⟨w.heap.size, 1, none⟩ = some u := keepS (by assumption) hx7)) | (go_at_call 26; refine (rdel_c _ ho7 hjX).mono ?_; rintro e w8 ⟨v8, rfl, ho8, hg8, hb8⟩; (have hS8 : Ext wr w8 ∧ w8.cell? ⟨w.heap.size, 0, none⟩ = some (.int .i64 vars) ∧ w8.cell? ⟨w.heap.size, 1, none⟩ = some u := keepB hS7 hBr (below_of_grown hS7.1.size hg8 (fun r hr => (ho7.lt r hr).1)))) | (go_at_call 24; refine (refutes_c _ (hu7.ext hS8.1) ho8.arr hbr).mono ?_; rintro e w9 ⟨rfl, hx9⟩; rw [hmin]))
                    dsimp only [Exit.then]
                    exact ⟨v7, v8, keepS hS8 hx9, rfl⟩
                  · rintro a W9 ⟨v7, v8, ⟨hx9, hq4, hq5⟩, rfl⟩
                    simp only [List.setIfInBounds_toArray, List.set_cons_succ, List.set_cons_zero]
                    go_wp2
                    go_roundw
                    case rel => exact ⟨j + 1, hlt, by go_num, hxr.trans hx9⟩
                    case measure => simp [intOf]; omega
                · obtain hjX : j + 1 = X.length := by omega
                  have hjl : ¬ (j : Int) < (X.length : Int) - 1 := by omega
                  have hK7 := Good.ext (R := Ints) hK6 hxr
                  have hww7 := hww.trans hxr
                  obtain ⟨W7, hW7⟩ : ∃ W7, W7 = wr := ⟨_, rfl⟩
                  rw [← hW7] at hX7 hu7 hK7 hq2 hq3 hww7 hBr ⊢
                  clear hW7 hX6 hu6 hK6 hq0 hq1 hww hBw
                  have hu8 : Arr (Arr RI) (fun k => k < W7.heap.size) W7 u l := Arr.old hu7
                  go_wp2_with (first | ((with_reducible refine w_len elI.und ?_ ?_ (Arr.len hK7) ?_); (· rfl); (· rfl); simp only [Act.put, List.setIfInBounds_toArray, List.set_cons_succ, List.set_cons_zero]))
                  go_loopw [13, 110] (fun x i wr => ∃ (k : Nat), k ≤ K.length ∧ i = .int .i64 (k : Int) ∧ Own W7.heap.size 37 (Arr RI) (fun k => k < W7.heap.size) wr x (chosenI l (K.take k)) ∧ Ext W7 wr) (fun _ i _ => K.length - (intOf i).toNat)
                  case atStart => exact ⟨0, Nat.zero_le _, rfl, Own.nil, Ext.refl _⟩
                  case round =>
                    obtain ⟨k, hk, rfl, ho, hxt⟩ := hrel
                    have hK9 := Good.ext (R := Ints) hK7 hxt
                    have hu9 := hu8.ext hxt
                    have hq4 := hxt.cell hq2
                    have hq5 := hxt.cell hq3
                    by_cases hlt : k < K.length
                    · have hrg := hS'.out.rng _ (List.getElem_mem hlt)
                      have hn0 : ¬ K[k] < 0 := by omega
                      have hn1 : ¬ (l.length : Int) ≤ K[k] := by omega
                      have hj' : K[k] = (((K[k]).toNat : Nat) : Int) := by omega
                      have hlt2 : (K[k]).toNat < l.length := by omega
                      have hg : Hid (l.getD (K[k]).toNat [] = l[(K[k]).toNat]) := by show _ = _; rw [List.getD_eq_getElem?_getD, List.getElem?_eq_getElem hlt2]; rfl
                      have htk : Hid (chosenI l (K.take (k + 1)) = chosenI l (K.take k) ++ [l[(K[k]).toNat]]) := by
                        show _ = _
                        rw [List.take_succ_eq_append_getElem hlt]
                        simp only [chosenI, List.map_append, List.map_cons, List.map_nil]
                        rw [hg.out]
                      have hlen1 : ((chosenI l (K.take k)).length + 1) * 24 ≤ 140737488355328 := by rw [chosenI_length, List.length_take]; omega
                      have Hj := Lib.hid hj'
                      clear hj' hrg
                      cases k with
                      | zero =>
                        have hz0 : (((0 : Nat) : Int)) = 0 := rfl
                        go_wp2_with (first | ((with_reducible refine w_ixI elI ?_ ?_ ?_ ?_ ?_ hK9 hlt ?_); (· rfl); (· exact fun _ => rfl); (· exact fun _ => rfl); (· rfl); (· rfl); intro _; simp only [Act.put, List.setIfInBounds_toArray, List.set_cons_succ, List.set_cons_zero]) | ((with_reducible refine w_len elR.und ?_ ?_ hu9.len ?_); (· rfl); (· rfl); simp only [Act.put, List.setIfInBounds_toArray, List.set_cons_succ, List.set_cons_zero]) | ((with_reducible refine w_ixJ elR ?_ ?_ ?_ K[0] Hj.out ?_ ?_ hu9 hlt2 ?_); (· rfl); (· exact fun _ => rfl); (· exact fun _ => rfl); (· rfl); (· rfl); intro _ z hzz h1z; simp only [Act.put, List.setIfInBounds_toArray, List.set_cons_succ, List.set_cons_zero]) | ((with_reducible refine w_push elR ?_ ?_ ?_ ?_ ho (l[(K[0]).toNat]) (own_elem ho hzz) h1z hxt.size hlen1 (by decide) ?_); (· exact fun _ => rfl); (· rfl); (· rfl); (· rfl); rintro _ v3 w3' ho3 hb3 hg3 _; simp only [Act.put, List.setIfInBounds_toArray, List.set_cons_succ, List.set_cons_zero]))
                        go_roundw
                        case rel => exact ⟨0 + 1, hlt, by go_num, by rw [htk.out]; exact ho3, Below.trans hxt hb3⟩
                        case measure => simp [intOf]; omega
                      | succ k =>
                        have hlt' : k < K.length := by omega
                        have hpw := List.pairwise_iff_getElem.1 hS'.out.inc k (k + 1) hlt' hlt (by omega)
                        have hn2 : ¬ K[k + 1] ≤ K[k] := by omega
                        clear hpw
                        go_wp2_with (first | ((with_reducible refine w_ixI elI ?_ ?_ ?_ ?_ ?_ hK9 hlt ?_); (· rfl); (· exact fun _ => rfl); (· exact fun _ => rfl); (· rfl); (· rfl); intro _; simp only [Act.put, List.setIfInBounds_toArray, List.set_cons_succ, List.set_cons_zero]) | ((with_reducible refine w_len elR.und ?_ ?_ hu9.len ?_); (· rfl); (· rfl); simp only [Act.put, List.setIfInBounds_toArray, List.set_cons_succ, List.set_cons_zero]) | ((with_reducible refine w_ixI elI ?_ ?_ ?_ ?_ ?_ hK9 hlt' ?_); (· rfl); (· exact fun _ => rfl); (· exact fun _ => rfl); (· rfl); (· rfl); intro _; simp only [Act.put, List.setIfInBounds_toArray, List.set_cons_succ, List.set_cons_zero]) | ((with_reducible refine w_ixJ elR ?_ ?_ ?_ K[k + 1] Hj.out ?_ ?_ hu9 hlt2 ?_); (· rfl); (· exact fun _ => rfl); (· exact fun _ => rfl); (· rfl); (· rfl); intro _ z hzz h1z; simp only [Act.put, List.setIfInBounds_toArray, List.set_cons_succ, List.set_cons_zero]) | ((with_reducible refine w_push elR ?_ ?_ ?_ ?_ ho (l[(K[k + 1]).toNat]) (own_elem ho hzz) h1z hxt.size hlen1 (by decide) ?_); (· exact fun _ => rfl); (· rfl); (· rfl); (· rfl); rintro _ v3 w3' ho3 hb3 hg3 _; simp only [Act.put, List.setIfInBounds_toArray, List.set_cons_succ, List.set_cons_zero]))
                        go_roundw
                        case rel => exact ⟨k + 1 + 1, hlt, by go_num, by rw [htk.out]; exact ho3, Below.trans hxt hb3⟩
                        case measure => simp [intOf]; omega
                    · obtain rfl : k = K.length := by omega
                      rw [List.take_length] at ho
                      have hX8 := Good.ext (R := Rows) hX7 hxt
                      have hww8 := hww7.trans hxt
                      obtain ⟨W8, hW8⟩ : ∃ W8, W8 = wr := ⟨_, rfl⟩
                      rw [← hW8] at ho hX8 hww8 ⊢
                      have hlen5 : (chosenI l K).length = K.length := chosenI_length l K
                      have hll := Lib.hid hlen5
                      have hol := ho.len
                      rw [hlen5] at hol
                      have hl24 : (chosenI l K).length * 24 ≤ 140737488355328 := by rw [hlen5]; omega
                      clear hlen5 hW8 hK9 hu9 hq4 hq5 hK7 hu7 hu8 hq2 hq3
                      go_wp2_with (first | ((with_reducible refine w_len elR.und ?_ ?_ hol ?_); (· rfl); (· rfl); simp only [Act.put, List.setIfInBounds_toArray, List.set_cons_succ, List.set_cons_zero]))
                      go_loopw [148] (fun i wr => ∃ (k : Nat), k ≤ K.length ∧ i = .int .i64 (k : Int) ∧ Ext W8 wr) (fun i _ => K.length - (intOf i).toNat)
                      case atStart => exact ⟨0, Nat.zero_le _, rfl, Ext.refl _⟩
                      case round =>
                        obtain ⟨k, hk, rfl, hxu⟩ := hrel
                        have ho9 := (ho.ext hxu).arr
                        have hX9 := Good.ext (R := Rows) hX8 hxu
                        by_cases hlt : k < K.length
                        · have hltc : k < (chosenI l K).length := by rw [hll.out]; exact hlt
                          have hwr : IntKind.i64.wrap ((k : Int) + 1) = (k : Int) + 1 := by simp [IntKind.wrap, IntKind.signed, IntKind.bits]; omega
                          have hmin := hS'.out.minK k hlt
                          rw [← chosenI_remI] at hmin
                          have hrl := remI_length hlt
                          have hrm : ∀ x ∈ remI (chosenI l K) k, x ∈ l := by
                            rw [chosenI_remI]
                            exact chosenI_mem (fun y hy => hS'.out.rng y (remI_mem hy))
                          have hrlen : (remI (chosenI l K) k).length ≤ 100 := by rw [chosenI_remI, chosenI_length]; omega
                          have hbr0 := bulk_le hrlen (fun x hx => hL20.out x (hrm x hx))
                          have hbr : bulkR (remI (chosenI l K) k) + bulkR X ≤ 500000 := by omega
                          clear hbr0 hrlen hrm hrl
                          go_wp2_with (first | (go_at_call 27; refine (rclone_c _ ho9 hl24).mono ?_; rintro e w6 ⟨v6, rfl, ho6, hx6⟩) | (go_at_call 26; refine (rdel_c _ ho6 hltc).mono ?_; rintro e w7' ⟨v7, rfl, ho7, hg7, hb7⟩; (have hx7 : Ext wr w7' := Below.grown hx6 hg7 hx6.size (fun r hr => (ho6.lt r hr).1))) | (go_at_call 24; refine (refutes_c _ ho7.arr (Good.ext (R := Rows) hX9 hx7) hbr).mono ?_; rintro e w8 ⟨rfl, hx8⟩; rw [hmin]))
                          go_roundw
                          case rel => exact ⟨k + 1, hlt, by go_num, (hxu.trans hx7).trans hx8⟩
                          case measure => simp [intOf]; omega
                        · obtain rfl : k = K.length := by omega
                          have hbr0 := bulk_le (l := chosenI l K) (by rw [hll.out]; omega) (fun x hx => hL20.out x (chosenI_mem hS'.out.rng x hx))
                          have hbr : bulkR (chosenI l K) + bulkR X ≤ 500000 := by omega
                          have hrf := hS'.out.refK
                          clear hbr0
                          go_wp2_with (first | (go_at_call 24; refine (refutes_c _ ho9 hX9 hbr).mono ?_; rintro e w8 ⟨rfl, hx8⟩; rw [hrf]) | (go_at_call 12; refine (awake_c _).mono ?_; rintro e w12 ⟨rfl, hx12⟩))
                          go_ret
                          exact ⟨rfl, ((hww8.trans hxu).trans hx8).trans hx12⟩
        · have Hve : Hid (((verifyI vars l p).2 != 0) = true) := by show _ = _; simp [hve]
          have Hve2 := Lib.hid hve
          clear hve
          go_enter Try.func7, Try.ntmps7
          go_wp2_with (first | (go_at_call 11; refine (few_c _ _ (hu.ext (Ext.of_alloc _ _)) (hv.ext (Ext.of_alloc _ _))).mono ?_; rintro e w1 ⟨rfl, hx1⟩; rw [Hf.out]; have hx := (Ext.of_alloc w _).trans hx1; have hu1 := hu.ext hx; have hv1 := hv.ext hx; obtain ⟨hb0, hb1⟩ := HB.out w1 hx1) | ((with_reducible refine w_len elR.und ?_ ?_ hu1.len ?_); (· rfl); (· rfl); simp only [Act.put, List.setIfInBounds_toArray, List.set_cons_succ, List.set_cons_zero]) | (go_at_call 21; refine (check_c _ _ hu1).mono ?_; rintro e w2 ⟨rfl, hx2⟩; rw [Hck.out]; have hc0 := hx2.cell hb0; have hc1 := hx2.cell hb1; have hu2 := hu1.ext hx2; have hv2 := hv1.ext hx2) | (go_at_call 15; refine (ptrim_c _ _ hu2 hv2 hr).mono ?_; rintro e w3 ⟨_, rfl, ⟨x3, rfl, hr3⟩, hx3⟩; (have hbv := Hve.out)) | (go_at_call 12; refine (awake_c _).mono ?_; rintro e w12 ⟨rfl, hx12⟩))
          go_ret
          exact ⟨rfl, ((hx.trans hx2).trans hx3).trans hx12⟩
      · go_enter Try.func7, Try.ntmps7
        go_wp2_with (first | (go_at_call 11; refine (few_c _ _ (hu.ext (Ext.of_alloc _ _)) (hv.ext (Ext.of_alloc _ _))).mono ?_; rintro e w1 ⟨rfl, hx1⟩; rw [Hf.out]; have hx := (Ext.of_alloc w _).trans hx1; have hu1 := hu.ext hx; have hv1 := hv.ext hx; obtain ⟨hb0, hb1⟩ := HB.out w1 hx1) | ((with_reducible refine w_len elR.und ?_ ?_ hu1.len ?_); (· rfl); (· rfl); simp only [Act.put, List.setIfInBounds_toArray, List.set_cons_succ, List.set_cons_zero]) | (go_at_call 21; refine (check_c _ _ hu1).mono ?_; rintro e w2 ⟨rfl, hx2⟩; skip) | (go_at_call 12; refine (awake_c _).mono ?_; rintro e w12 ⟨rfl, hx12⟩))
        go_ret
        exact ⟨rfl, (hx.trans hx2).trans hx12⟩
    · have hd16 : decide ((16 : Int) < (l.length : Int)) = true := decide_eq_true (by omega)
      go_enter Try.func7, Try.ntmps7
      go_wp2_with (first | (go_at_call 11; refine (few_c _ _ (hu.ext (Ext.of_alloc _ _)) (hv.ext (Ext.of_alloc _ _))).mono ?_; rintro e w1 ⟨rfl, hx1⟩; rw [Hf.out]; have hx := (Ext.of_alloc w _).trans hx1; have hu1 := hu.ext hx; have hv1 := hv.ext hx; obtain ⟨hb0, hb1⟩ := HB.out w1 hx1) | ((with_reducible refine w_len elR.und ?_ ?_ hu1.len ?_); (· rfl); (· rfl); simp only [Act.put, List.setIfInBounds_toArray, List.set_cons_succ, List.set_cons_zero]) | (go_at_call 12; refine (awake_c _).mono ?_; rintro e w12 ⟨rfl, hx12⟩))
      go_ret
      exact ⟨rfl, hx.trans hx12⟩

end

end Go.Proofs.Ytjifihfkoflbiaa
