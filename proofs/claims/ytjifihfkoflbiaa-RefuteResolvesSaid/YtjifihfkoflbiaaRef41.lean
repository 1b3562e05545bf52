/-
  The contracts of the reference on clauses (roundtableref41): what each function hands back, for every world; all that lay lies as it lay.
-/
import Derived.Test.YtjifihfkoflbiaaSpec41
import Derived.Test.YtjifihfkoflbiaaProg
namespace Go.Proofs.Ytjifihfkoflbiaa
open Go.RowKit

theorem elI : ElT Try.prog 37 3 1 (.int .i64 0) 8 false := ⟨Try.underlying37, by kernel_rfl, Try.isAgg3, rfl⟩
theorem elR : ElT Try.prog 22 37 1 (.slice none 0 0) 24 false := ⟨Try.underlying22, by kernel_rfl, Try.isAgg37, rfl⟩

theorem var_c (x : Int) (w : World) : Calls Try.prog 50 #[.int .i64 x] w fun e w' => e = .returned (.int .i64 (varI x)) ∧ w' = w := by
  unfold varI
  go_enter Try.func50, Try.ntmps50
  go_wp2
  all_goals (go_ret; exact ⟨rfl, rfl⟩)

theorem good_c (vars l : Int) (w : World) (hv : -9223372036854775807 ≤ vars) (hv2 : vars ≤ 9223372036854775807) : Calls Try.prog 49 #[.int .i64 vars, .int .i64 l] w fun e w' => e = .returned (.bool (goodI vars l)) ∧ w' = w := by
  have hg : goodI vars l = (l != 0 && (decide (-vars ≤ l) && decide (l ≤ vars))) := by
    unfold goodI; by_cases h : l = 0 <;> simp [h]
  generalize goodI vars l = g at *
  have Hg := Lib.hid hg
  clear hg
  go_enter Try.func49, Try.ntmps49
  go_wp2
  all_goals (go_ret; refine ⟨ret_b ?_, rfl⟩; rw [Hg.out]; simp_all)
  omega

set_option maxHeartbeats 400000 in
theorem has_c {P : Nat → Prop} {v : Value} {zs : List Int} (n : Int) (w : World) (hv : Ints P w v zs) :
    Calls Try.prog 59 #[v, .int .i64 n] w fun e w' => e = .returned (.bool (hasI zs n)) ∧ w' = w := by
  have hle := hv.le
  go_enter Try.func59, Try.ntmps59
  go_wp2
  go_loop [5] (fun i => ∃ k : Nat, k ≤ zs.length ∧ i = .int .i64 k ∧ Hid (hasI (zs.drop k) n = hasI zs n)) (fun i => zs.length - (intOf i).toNat)
  case atStart => exact ⟨0, Nat.zero_le _, rfl, rfl⟩
  case round =>
    obtain ⟨k, hk, rfl, hn⟩ := hrel
    by_cases hlt : k < zs.length
    · have hd : Hid (zs.drop k = zs[k] :: zs.drop (k + 1)) := List.drop_eq_getElem_cons hlt
      by_cases hx : zs[k] = n
      · go_wp2_with (first | ((with_reducible refine w_len elI.und ?_ ?_ hv.len ?_); (· rfl); (· rfl); simp only [Act.put, List.setIfInBounds_toArray, List.set_cons_succ, List.set_cons_zero]) | ((with_reducible refine w_ixI elI ?_ ?_ ?_ ?_ ?_ hv hlt ?_); (· rfl); (· exact fun _ => rfl); (· exact fun _ => rfl); (· rfl); (· rfl); intro _; simp only [Act.put, List.setIfInBounds_toArray, List.set_cons_succ, List.set_cons_zero]))
        go_ret
        exact ⟨ret_b (by rw [← hn.out, hd.out, hasI, if_pos hx]), rfl⟩
      · go_wp2_with (first | ((with_reducible refine w_len elI.und ?_ ?_ hv.len ?_); (· rfl); (· rfl); simp only [Act.put, List.setIfInBounds_toArray, List.set_cons_succ, List.set_cons_zero]) | ((with_reducible refine w_ixI elI ?_ ?_ ?_ ?_ ?_ hv hlt ?_); (· rfl); (· exact fun _ => rfl); (· exact fun _ => rfl); (· rfl); (· rfl); intro _; simp only [Act.put, List.setIfInBounds_toArray, List.set_cons_succ, List.set_cons_zero]))
        go_round
        case rel => exact ⟨k + 1, hlt, by go_num, by rw [← hn.out, hd.out, hasI, if_neg hx]; rfl⟩
        case measure => simp [intOf]; omega
    · obtain rfl : k = zs.length := by omega
      go_wp2_with ((with_reducible refine w_len elI.und ?_ ?_ hv.len ?_); (· rfl); (· rfl); simp only [Act.put, List.setIfInBounds_toArray, List.set_cons_succ, List.set_cons_zero])
      go_ret
      exact ⟨ret_b (by rw [← hn.out, List.drop_length, hasI]), rfl⟩

set_option maxHeartbeats 400000 in
theorem clause_c {P : Nat → Prop} {v : Value} {zs : List Int} (vars : Int) (w : World) (hv : Ints P w v zs) (hv1 : -9223372036854775807 ≤ vars) (hv2 : vars ≤ 9223372036854775807) :
    Calls Try.prog 22 #[.int .i64 vars, v] w fun e w' => e = .returned (.int .i64 (clauseI vars none zs)) ∧ ∃ n, w' = w.drewN n := by
  have hle := hv.le
  go_enter Try.func22, Try.ntmps22
  go_wp2
  go_loopw [5] (fun i wr => ∃ k m : Nat, k ≤ zs.length ∧ i = .int .i64 k ∧ Hid (clauseI vars (prevI zs k) (zs.drop k) = clauseI vars none zs) ∧ wr = w.drewN m) (fun i _ => zs.length - (intOf i).toNat)
  case atStart => exact ⟨0, 0, Nat.zero_le _, rfl, rfl, rfl⟩
  case round =>
    obtain ⟨k, m, hk, rfl, hn, rfl⟩ := hrel
    have hv' := hv.ext (Ext.of_drewN w m)
    by_cases hlt : k < zs.length
    · by_cases hx : goodI vars zs[k] = true
      · go_wp2_with (first | ((with_reducible refine w_len elI.und ?_ ?_ hv'.len ?_); (· rfl); (· rfl); simp only [Act.put, List.setIfInBounds_toArray, List.set_cons_succ, List.set_cons_zero]) | ((with_reducible refine w_ixI elI ?_ ?_ ?_ ?_ ?_ hv' hlt ?_); (· rfl); (· exact fun _ => rfl); (· exact fun _ => rfl); (· rfl); (· rfl); intro _; simp only [Act.put, List.setIfInBounds_toArray, List.set_cons_succ, List.set_cons_zero]) | (go_at_call 49; refine (good_c _ _ _ hv1 hv2).mono ?_; rintro e w1 ⟨rfl, rfl⟩))
        cases k with
        | zero =>
          (refine wp_region_quiet_lit (by kernel_rfl) (by kernel_rfl) ?_; (repeat (first | go_big_quiet_skip |  ((with_reducible refine q_ixI elI ?_ ?_ ?_ ?_ hv' hlt ext_of_class ?_ ?_); (· rfl); (· exact fun _ => rfl); (· rfl); (· rfl); (· exact fun _ => rfl); intro _; simp only [Act.put, List.setIfInBounds_toArray, List.set_cons_succ, List.set_cons_zero])  | go_big_quiet_step (fail))); refine wpQuiet_nil ?_; rintro _ ⟨nq, rfl⟩)
          go_wp2
          go_roundw
          case rel => exact ⟨1, m + nq, hlt, rfl, by rw [← hn.out, clauseI_zero hlt hx]; rfl, rfl⟩
          case measure => simp [intOf]; omega
        | succ k =>
          have hk1 : k < zs.length := by omega
          have hs := Lib.hid (clauseI_succ hlt hx)
          (refine wp_region_quiet_lit (by kernel_rfl) (by kernel_rfl) ?_; (repeat (first | go_big_quiet_skip |  ((with_reducible refine q_ixI elI ?_ ?_ ?_ ?_ hv' hlt ext_of_class ?_ ?_); (· rfl); (· exact fun _ => rfl); (· rfl); (· rfl); (· exact fun _ => rfl); intro _; simp only [Act.put, List.setIfInBounds_toArray, List.set_cons_succ, List.set_cons_zero]) | ((with_reducible refine q_ixI elI ?_ ?_ ?_ ?_ hv' hk1 ext_of_class ?_ ?_); (· rfl); (· exact fun _ => rfl); (· rfl); (· rfl); (· exact fun _ => rfl); intro _; simp only [Act.put, List.setIfInBounds_toArray, List.set_cons_succ, List.set_cons_zero]) | ((with_reducible refine q_call Try.call50 ?_ ?_ (fun w hw => class_same hw (var_c zs[k+1] _)) ?_); (· rfl); (· rfl); simp only [Act.put, List.setIfInBounds_toArray, List.set_cons_succ, List.set_cons_zero]) | ((with_reducible refine q_call Try.call50 ?_ ?_ (fun w hw => class_same hw (var_c zs[k] _)) ?_); (· rfl); (· rfl); simp only [Act.put, List.setIfInBounds_toArray, List.set_cons_succ, List.set_cons_zero])  | go_big_quiet_step (fail))); refine wpQuiet_nil ?_; rintro _ ⟨nq, rfl⟩)
          by_cases hp : varI zs[k + 1] ≤ varI zs[k]
          · go_wp2
            go_ret
            exact ⟨ret_i (by rw [← hn.out, hs.out, if_pos hp]), m + nq, World.drewN_drewN ..⟩
          · go_wp2
            go_roundw
            case rel => exact ⟨k + 1 + 1, m + nq, hlt, by go_num, by rw [← hn.out, hs.out, if_neg hp]; rfl, rfl⟩
            case measure => simp [intOf]; omega
      · have hb := Lib.hid (clauseI_bad hlt hx)
        have hx' : goodI vars zs[k] = false := by simpa using hx
        clear hx
        go_wp2_with (first | ((with_reducible refine w_len elI.und ?_ ?_ hv'.len ?_); (· rfl); (· rfl); simp only [Act.put, List.setIfInBounds_toArray, List.set_cons_succ, List.set_cons_zero]) | ((with_reducible refine w_ixI elI ?_ ?_ ?_ ?_ ?_ hv' hlt ?_); (· rfl); (· exact fun _ => rfl); (· exact fun _ => rfl); (· rfl); (· rfl); intro _; simp only [Act.put, List.setIfInBounds_toArray, List.set_cons_succ, List.set_cons_zero]) | (go_at_call 49; refine (good_c _ _ _ hv1 hv2).mono ?_; rintro e w1 ⟨rfl, rfl⟩))
        go_ret
        exact ⟨ret_i (by rw [← hn.out, hb.out]), m, rfl⟩
    · obtain rfl : k = zs.length := by omega
      go_wp2_with ((with_reducible refine w_len elI.und ?_ ?_ hv'.len ?_); (· rfl); (· rfl); simp only [Act.put, List.setIfInBounds_toArray, List.set_cons_succ, List.set_cons_zero])
      go_ret
      exact ⟨ret_i (by rw [← hn.out, List.drop_length, clauseI]), m, rfl⟩

/-- api.Clauses by value -/
def RC : Rel (Int × List (List Int)) := fun P w v x => ∃ u, v = .agg #[.int .i64 x.1, u] ∧ Rows P w u x.2
instance : Good RC := ⟨fun ⟨u, h, k⟩ hP => ⟨u, h, Good.weak k hP⟩, fun ⟨u, h, k⟩ hm => ⟨u, h, Good.move k hm⟩, fun ⟨u, h, k⟩ => ⟨u, h, Good.bound k⟩⟩

theorem sizes_c {P : Nat → Prop} {u : Value} {l : List (List Int)} (vars : Int) (w : World) (hv : Rows P w u l) :
    Calls Try.prog 48 #[.agg #[.int .i64 vars, u]] w fun e w' => e = .returned (.int .i64 (sizesI vars l.length)) ∧ Ext w w' := by
  have hle := hv.le
  go_enter Try.func48, Try.ntmps48
  go_wp2_with ((with_reducible refine w_len elR.und ?_ ?_ hv.len ?_); (· rfl); (· rfl); simp only [Act.put, List.setIfInBounds_toArray, List.set_cons_succ, List.set_cons_zero])
  all_goals go_ret
  all_goals exact ⟨ret_i (by unfold sizesI; (repeat' split) <;> first | rfl | omega), Ext.of_alloc _ _⟩

theorem clausesI_step {vars : Int} {l : List (List Int)} {k : Nat} (h : k < l.length) : clausesI vars (l.drop k) = if clauseI vars none l[k] ≠ 0 then clauseI vars none l[k] else clausesI vars (l.drop (k + 1)) := by
  rw [List.drop_eq_getElem_cons h, clausesI]

set_option maxHeartbeats 400000 in
theorem check_c {P : Nat → Prop} {u : Value} {l : List (List Int)} (vars : Int) (w : World) (hv : Rows P w u l) :
    Calls Try.prog 21 #[.agg #[.int .i64 vars, u]] w fun e w' => e = .returned (.int .i64 (checkI vars l)) ∧ Ext w w' := by
  have hle := hv.le
  by_cases hs : sizesI vars l.length = 0
  · have hvars : 0 ≤ vars ∧ vars ≤ 4096 := by unfold sizesI at hs; split at hs <;> omega
    have hck : Hid (checkI vars l = clausesI vars l) := by show _ = _; unfold checkI; rw [if_neg (by simp [hs])]
    go_enter Try.func21, Try.ntmps21
    go_wp2_with (go_at_call 48; refine (sizes_c _ _ (hv.ext (Ext.of_alloc _ _))).mono ?_; rintro e w1 ⟨rfl, hx1⟩)
    have hb0 : w1.cell? ⟨w.heap.size, 0, none⟩ = some (.int .i64 vars) := hx1.cell (by simp)
    have hb1 : w1.cell? ⟨w.heap.size, 1, none⟩ = some u := hx1.cell (by simp)
    have hx := (Ext.of_alloc w _).trans hx1
    have hv1 := hv.ext hx
    clear hx1 hs
    go_loopw [4] (fun i wr => ∃ k m : Nat, k ≤ l.length ∧ i = .int .i64 k ∧ Hid (clausesI vars (l.drop k) = clausesI vars l) ∧ wr = w1.drewN m) (fun i _ => l.length - (intOf i).toNat)
    case atStart => exact ⟨0, 0, Nat.zero_le _, rfl, rfl, rfl⟩
    case round =>
      obtain ⟨k, m, hk, rfl, hn, rfl⟩ := hrel
      have hv' := hv1.ext (Ext.of_drewN w1 m)
      by_cases hlt : k < l.length
      · have hst := Lib.hid (clausesI_step (vars := vars) hlt)
        go_wp2_with ((with_reducible refine w_len elR.und ?_ ?_ hv'.len ?_); (· rfl); (· rfl); simp only [Act.put, List.setIfInBounds_toArray, List.set_cons_succ, List.set_cons_zero])
        (refine wp_region_quiet_lit (by kernel_rfl) (by kernel_rfl) ?_; (repeat (first | go_big_quiet_skip |  ((with_reducible refine q_ix elR ?_ ?_ ?_ ?_ hv' hlt ext_of_class ?_ ?_); (· rfl); (· exact fun _ => rfl); (· rfl); (· rfl); (· exact fun _ => rfl); intro _ c hc h1c; simp only [Act.put, List.setIfInBounds_toArray, List.set_cons_succ, List.set_cons_zero]) | ((with_reducible refine q_call Try.call22 ?_ ?_ (fun w hw => class_call hw (clause_c vars _ (Good.ext (R := Ints) hc (ext_of_class _ hw)) (by omega) (by omega))) ?_); (· rfl); (· rfl); simp only [Act.put, List.setIfInBounds_toArray, List.set_cons_succ, List.set_cons_zero])  | go_big_quiet_step (fail))); refine wpQuiet_nil ?_; rintro _ ⟨nq, rfl⟩)
        by_cases hz : clauseI vars none l[k] = 0
        · go_wp2
          go_roundw
          case rel => exact ⟨k + 1, m + nq, hlt, by go_num, by rw [← hn.out, hst.out, if_neg (by simp [hz])]; rfl, rfl⟩
          case measure => simp [intOf]; omega
        · go_wp2
          go_ret
          exact ⟨ret_i (by rw [hck.out, ← hn.out, hst.out, if_pos hz]), hx.drewN _⟩
      · obtain rfl : k = l.length := by omega
        go_wp2_with ((with_reducible refine w_len elR.und ?_ ?_ hv'.len ?_); (· rfl); (· rfl); simp only [Act.put, List.setIfInBounds_toArray, List.set_cons_succ, List.set_cons_zero])
        go_ret
        exact ⟨ret_i (by rw [hck.out, ← hn.out, List.drop_length, clausesI]), hx.drewN _⟩
  · have hck : Hid (checkI vars l = sizesI vars l.length) := by show _ = _; unfold checkI; rw [if_pos hs]
    go_enter Try.func21, Try.ntmps21
    go_wp2_with (go_at_call 48; refine (sizes_c _ _ (hv.ext (Ext.of_alloc _ _))).mono ?_; rintro e w1 ⟨rfl, hx1⟩)
    go_ret
    exact ⟨ret_i (by rw [hck.out]), (Ext.of_alloc w _).trans hx1⟩

set_option maxHeartbeats 400000 in
theorem same_c {P P' : Nat → Prop} {u v : Value} {a b : List Int} (w : World) (hu : Ints P w u a) (hv : Ints P' w v b) :
    Calls Try.prog 25 #[u, v] w fun e w' => e = .returned (.bool (sameI a b)) ∧ ∃ n, w' = w.drewN n := by
  have hle := hu.le
  have hle' := hv.le
  by_cases hl : a.length = b.length
  · have Hl := Lib.hid hl
    have hb : ((a.length : Int) != (b.length : Int)) = false := by rw [hl]; simp
    clear hl
    go_enter Try.func25, Try.ntmps25
    go_wp2_with (first | ((with_reducible refine w_len elI.und ?_ ?_ hu.len ?_); (· rfl); (· rfl); simp only [Act.put, List.setIfInBounds_toArray, List.set_cons_succ, List.set_cons_zero]) | ((with_reducible refine w_len elI.und ?_ ?_ hv.len ?_); (· rfl); (· rfl); simp only [Act.put, List.setIfInBounds_toArray, List.set_cons_succ, List.set_cons_zero]))
    go_loopw [5] (fun i wr => ∃ k m : Nat, k ≤ a.length ∧ i = .int .i64 k ∧ Hid (sameI (a.drop k) (b.drop k) = sameI a b) ∧ wr = w.drewN m) (fun i _ => a.length - (intOf i).toNat)
    case atStart => exact ⟨0, 0, Nat.zero_le _, rfl, rfl, rfl⟩
    case round =>
      obtain ⟨k, m, hk, rfl, hn, rfl⟩ := hrel
      have hu' := hu.ext (Ext.of_drewN w m)
      have hv' := hv.ext (Ext.of_drewN w m)
      by_cases hlt : k < a.length
      · have hlt' : k < b.length := by rw [← Hl.out]; exact hlt
        have hst := Lib.hid (sameI_step hlt hlt')
        go_wp2_with (first | ((with_reducible refine w_len elI.und ?_ ?_ hu'.len ?_); (· rfl); (· rfl); simp only [Act.put, List.setIfInBounds_toArray, List.set_cons_succ, List.set_cons_zero]))
        (refine wp_region_quiet_lit (by kernel_rfl) (by kernel_rfl) ?_; (repeat (first | go_big_quiet_skip |  ((with_reducible refine q_ixI elI ?_ ?_ ?_ ?_ hu' hlt ext_of_class ?_ ?_); (· rfl); (· exact fun _ => rfl); (· rfl); (· rfl); (· exact fun _ => rfl); intro _; simp only [Act.put, List.setIfInBounds_toArray, List.set_cons_succ, List.set_cons_zero]) | ((with_reducible refine q_ixI elI ?_ ?_ ?_ ?_ hv' hlt' ext_of_class ?_ ?_); (· rfl); (· exact fun _ => rfl); (· rfl); (· rfl); (· exact fun _ => rfl); intro _; simp only [Act.put, List.setIfInBounds_toArray, List.set_cons_succ, List.set_cons_zero])  | go_big_quiet_step (fail))); refine wpQuiet_nil ?_; rintro _ ⟨nq, rfl⟩)
        by_cases hz : a[k] = b[k]
        · have hz' : (a[k] != b[k]) = false := by simp [hz]
          have Hz := Lib.hid hz
          clear hz
          go_wp2
          go_roundw
          case rel => exact ⟨k + 1, m + nq, hlt, by go_num, by rw [← hn.out, hst.out, if_neg (by simp [Hz.out])]; rfl, rfl⟩
          case measure => simp [intOf]; omega
        · have hz' : (a[k] != b[k]) = true := by simp [hz]
          go_wp2
          go_ret
          exact ⟨ret_b (by rw [← hn.out, hst.out, if_pos hz]), m + nq, World.drewN_drewN ..⟩
      · obtain rfl : k = a.length := by omega
        go_wp2_with (first | ((with_reducible refine w_len elI.und ?_ ?_ hu'.len ?_); (· rfl); (· rfl); simp only [Act.put, List.setIfInBounds_toArray, List.set_cons_succ, List.set_cons_zero]))
        go_ret
        exact ⟨ret_b (by rw [← hn.out, List.drop_length, Hl.out, List.drop_length, sameI]), m, rfl⟩
  · have hb : ((a.length : Int) != (b.length : Int)) = true := by simp; omega
    have hf := Lib.hid (sameI_len hl)
    go_enter Try.func25, Try.ntmps25
    go_wp2_with (first | ((with_reducible refine w_len elI.und ?_ ?_ hu.len ?_); (· rfl); (· rfl); simp only [Act.put, List.setIfInBounds_toArray, List.set_cons_succ, List.set_cons_zero]) | ((with_reducible refine w_len elI.und ?_ ?_ hv.len ?_); (· rfl); (· rfl); simp only [Act.put, List.setIfInBounds_toArray, List.set_cons_succ, List.set_cons_zero]))
    go_ret
    exact ⟨ret_b (by rw [hf.out]), 0, rfl⟩

set_option maxHeartbeats 400000 in
theorem sameAll_c {P P' : Nat → Prop} {u v : Value} {a b : List (List Int)} (w : World) (hu : Rows P w u a) (hv : Rows P' w v b) :
    Calls Try.prog 17 #[u, v] w fun e w' => e = .returned (.bool (sameAllI a b)) ∧ ∃ n, w' = w.drewN n := by
  have hle := hu.le
  have hle' := hv.le
  by_cases hl : a.length = b.length
  · have Hl := Lib.hid hl
    have hb : ((a.length : Int) != (b.length : Int)) = false := by rw [hl]; simp
    clear hl
    go_enter Try.func17, Try.ntmps17
    go_wp2_with (first | ((with_reducible refine w_len elR.und ?_ ?_ hu.len ?_); (· rfl); (· rfl); simp only [Act.put, List.setIfInBounds_toArray, List.set_cons_succ, List.set_cons_zero]) | ((with_reducible refine w_len elR.und ?_ ?_ hv.len ?_); (· rfl); (· rfl); simp only [Act.put, List.setIfInBounds_toArray, List.set_cons_succ, List.set_cons_zero]))
    go_loopw [5] (fun i wr => ∃ k m : Nat, k ≤ a.length ∧ i = .int .i64 k ∧ Hid (sameAllI (a.drop k) (b.drop k) = sameAllI a b) ∧ wr = w.drewN m) (fun i _ => a.length - (intOf i).toNat)
    case atStart => exact ⟨0, 0, Nat.zero_le _, rfl, rfl, rfl⟩
    case round =>
      obtain ⟨k, m, hk, rfl, hn, rfl⟩ := hrel
      have hu' := hu.ext (Ext.of_drewN w m)
      have hv' := hv.ext (Ext.of_drewN w m)
      by_cases hlt : k < a.length
      · have hlt' : k < b.length := by rw [← Hl.out]; exact hlt
        have hst := Lib.hid (sameAllI_step hlt hlt')
        go_wp2_with (first | ((with_reducible refine w_len elR.und ?_ ?_ hu'.len ?_); (· rfl); (· rfl); simp only [Act.put, List.setIfInBounds_toArray, List.set_cons_succ, List.set_cons_zero]))
        (refine wp_region_quiet_lit (by kernel_rfl) (by kernel_rfl) ?_; (repeat (first | go_big_quiet_skip |  ((with_reducible refine q_ix elR ?_ ?_ ?_ ?_ hu' hlt ext_of_class ?_ ?_); (· rfl); (· exact fun _ => rfl); (· rfl); (· rfl); (· exact fun _ => rfl); intro _ c hc h1c; simp only [Act.put, List.setIfInBounds_toArray, List.set_cons_succ, List.set_cons_zero]) | ((with_reducible refine q_ix elR ?_ ?_ ?_ ?_ hv' hlt' ext_of_class ?_ ?_); (· rfl); (· exact fun _ => rfl); (· rfl); (· rfl); (· exact fun _ => rfl); intro _ d hd h1d; simp only [Act.put, List.setIfInBounds_toArray, List.set_cons_succ, List.set_cons_zero]) | ((with_reducible refine q_call Try.call25 ?_ ?_ (fun w hw => class_call hw (same_c _ (Good.ext (R := Ints) hc (ext_of_class _ hw)) (Good.ext (R := Ints) hd (ext_of_class _ hw)))) ?_); (· rfl); (· rfl); simp only [Act.put, List.setIfInBounds_toArray, List.set_cons_succ, List.set_cons_zero])  | go_big_quiet_step (fail))); refine wpQuiet_nil ?_; rintro _ ⟨nq, rfl⟩)
        cases hz : sameI a[k] b[k]
        · go_wp2
          go_ret
          exact ⟨ret_b (by rw [← hn.out, hst.out, if_neg (by simp [hz])]), m + nq, World.drewN_drewN ..⟩
        · go_wp2
          go_roundw
          case rel => exact ⟨k + 1, m + nq, hlt, by go_num, by rw [← hn.out, hst.out, if_pos hz]; rfl, rfl⟩
          case measure => simp [intOf]; omega
      · obtain rfl : k = a.length := by omega
        go_wp2_with (first | ((with_reducible refine w_len elR.und ?_ ?_ hu'.len ?_); (· rfl); (· rfl); simp only [Act.put, List.setIfInBounds_toArray, List.set_cons_succ, List.set_cons_zero]))
        go_ret
        exact ⟨ret_b (by rw [← hn.out, List.drop_length, Hl.out, List.drop_length, sameAllI]), m, rfl⟩
  · have hb : ((a.length : Int) != (b.length : Int)) = true := by simp; omega
    have hf := Lib.hid (sameAllI_len hl)
    go_enter Try.func17, Try.ntmps17
    go_wp2_with (first | ((with_reducible refine w_len elR.und ?_ ?_ hu.len ?_); (· rfl); (· rfl); simp only [Act.put, List.setIfInBounds_toArray, List.set_cons_succ, List.set_cons_zero]) | ((with_reducible refine w_len elR.und ?_ ?_ hv.len ?_); (· rfl); (· rfl); simp only [Act.put, List.setIfInBounds_toArray, List.set_cons_succ, List.set_cons_zero]))
    go_ret
    exact ⟨ret_b (by rw [hf.out]), 0, rfl⟩

set_option maxHeartbeats 400000 in
theorem true_c {P P' : Nat → Prop} {u v : Value} {c l : List Int} (w : World) (hu : Ints P w u c) (hv : Ints P' w v l) :
    Calls Try.prog 34 #[u, v] w fun e w' => e = .returned (.bool (trueI c l)) ∧ w' = w := by
  have hle := hu.le
  go_enter Try.func34, Try.ntmps34
  go_wp2
  go_loop [5] (fun i => ∃ k : Nat, k ≤ c.length ∧ i = .int .i64 k ∧ Hid (trueI (c.drop k) l = trueI c l)) (fun i => c.length - (intOf i).toNat)
  case atStart => exact ⟨0, Nat.zero_le _, rfl, rfl⟩
  case round =>
    obtain ⟨k, hk, rfl, hn⟩ := hrel
    by_cases hlt : k < c.length
    · have hst := Lib.hid (trueI_step (l := l) hlt)
      cases hz : hasI l c[k]
      · go_wp2_with (first | ((with_reducible refine w_len elI.und ?_ ?_ hu.len ?_); (· rfl); (· rfl); simp only [Act.put, List.setIfInBounds_toArray, List.set_cons_succ, List.set_cons_zero]) | ((with_reducible refine w_ixI elI ?_ ?_ ?_ ?_ ?_ hu hlt ?_); (· rfl); (· exact fun _ => rfl); (· exact fun _ => rfl); (· rfl); (· rfl); intro _; simp only [Act.put, List.setIfInBounds_toArray, List.set_cons_succ, List.set_cons_zero]) | (go_at_call 59; refine (has_c _ _ hv).mono ?_; rintro e w1 ⟨rfl, rfl⟩))
        go_round
        case rel => exact ⟨k + 1, hlt, by go_num, by rw [← hn.out, hst.out, if_neg (by simp [hz])]; rfl⟩
        case measure => simp [intOf]; omega
      · go_wp2_with (first | ((with_reducible refine w_len elI.und ?_ ?_ hu.len ?_); (· rfl); (· rfl); simp only [Act.put, List.setIfInBounds_toArray, List.set_cons_succ, List.set_cons_zero]) | ((with_reducible refine w_ixI elI ?_ ?_ ?_ ?_ ?_ hu hlt ?_); (· rfl); (· exact fun _ => rfl); (· exact fun _ => rfl); (· rfl); (· rfl); intro _; simp only [Act.put, List.setIfInBounds_toArray, List.set_cons_succ, List.set_cons_zero]) | (go_at_call 59; refine (has_c _ _ hv).mono ?_; rintro e w1 ⟨rfl, rfl⟩))
        go_ret
        exact ⟨ret_b (by rw [← hn.out, hst.out, if_pos hz]), rfl⟩
    · obtain rfl : k = c.length := by omega
      go_wp2_with ((with_reducible refine w_len elI.und ?_ ?_ hu.len ?_); (· rfl); (· rfl); simp only [Act.put, List.setIfInBounds_toArray, List.set_cons_succ, List.set_cons_zero])
      go_ret
      exact ⟨ret_b (by rw [← hn.out, List.drop_length, trueI]), rfl⟩

/-- a call that hands back a value that reads as .. -/
def RetP (p : World → Value → Prop) (w : World) (e : Ending) (w' : World) : Prop := ∃ v, e = .returned v ∧ p w' v ∧ Ext w w'

set_option maxHeartbeats 400000 in
theorem without_c {P P' : Nat → Prop} {u v : Value} {c l : List Int} (w : World) (hu : Ints P w u c) (hv : Ints P' w v l) (hsm : c.length ≤ 1000000) :
    Calls Try.prog 72 #[u, v] w (RetP (fun w' v => Own w.heap.size 3 RI noB w' v (withoutI c l)) w) := by
  have hle := hu.le
  go_enter Try.func72, Try.ntmps72
  go_wp2
  go_loopw [5, 6] (fun out i wr => ∃ (k : Nat) (acc : List Int), k ≤ c.length ∧ acc.length ≤ k ∧ i = .int .i64 k ∧ Hid (acc ++ withoutI (c.drop k) l = withoutI c l) ∧ Own w.heap.size 3 RI noB wr out acc ∧ Ext w wr) (fun _ i _ => c.length - (intOf i).toNat)
  case atStart => exact ⟨0, [], Nat.zero_le _, Nat.le_refl _, rfl, rfl, Own.nil, Ext.refl _⟩
  case round =>
    obtain ⟨k, acc, hk, hacc, rfl, hn, ho, hx⟩ := hrel
    have hu' := hu.ext hx
    have hv' := hv.ext hx
    by_cases hlt : k < c.length
    · have hst := Lib.hid (withoutI_step (l := l) hlt)
      cases hz : hasI l (wrap64 (-c[k]))
      · go_wp2_with (first | ((with_reducible refine w_len elI.und ?_ ?_ hu'.len ?_); (· rfl); (· rfl); simp only [Act.put, List.setIfInBounds_toArray, List.set_cons_succ, List.set_cons_zero]) | ((with_reducible refine w_ixI elI ?_ ?_ ?_ ?_ ?_ hu' hlt ?_); (· rfl); (· exact fun _ => rfl); (· exact fun _ => rfl); (· rfl); (· rfl); intro _; simp only [Act.put, List.setIfInBounds_toArray, List.set_cons_succ, List.set_cons_zero]) | (go_at_call 59; refine (has_c _ _ hv').mono ?_; rintro e w1 ⟨rfl, rfl⟩) | ((with_reducible refine w_pushI elI ?_ ?_ ?_ (c[k]) ?_ ho hx.size (by omega) ?_); (· exact fun _ => rfl); (· rfl); (· rfl); (· rfl); rintro _ v' w' ho' hb' _ _; simp only [Act.put, List.setIfInBounds_toArray, List.set_cons_succ, List.set_cons_zero]))
        go_roundw
        case rel => exact ⟨k + 1, acc ++ [c[k]], hlt, by simp; omega, by go_num, by show _ = _; rw [← hn.out, hst.out, if_neg (by simp [hz]), List.append_assoc]; rfl, ho', Below.trans hx hb'⟩
        case measure => simp [intOf]; omega
      · go_wp2_with (first | ((with_reducible refine w_len elI.und ?_ ?_ hu'.len ?_); (· rfl); (· rfl); simp only [Act.put, List.setIfInBounds_toArray, List.set_cons_succ, List.set_cons_zero]) | ((with_reducible refine w_ixI elI ?_ ?_ ?_ ?_ ?_ hu' hlt ?_); (· rfl); (· exact fun _ => rfl); (· exact fun _ => rfl); (· rfl); (· rfl); intro _; simp only [Act.put, List.setIfInBounds_toArray, List.set_cons_succ, List.set_cons_zero]) | (go_at_call 59; refine (has_c _ _ hv').mono ?_; rintro e w1 ⟨rfl, rfl⟩))
        go_roundw
        case rel => exact ⟨k + 1, acc, hlt, by omega, by go_num, by show _ = _; rw [← hn.out, hst.out, if_pos hz], ho, hx⟩
        case measure => simp [intOf]; omega
    · obtain rfl : k = c.length := by omega
      go_wp2_with ((with_reducible refine w_len elI.und ?_ ?_ hu'.len ?_); (· rfl); (· rfl); simp only [Act.put, List.setIfInBounds_toArray, List.set_cons_succ, List.set_cons_zero])
      go_ret
      refine ⟨_, rfl, ?_, hx⟩
      have := hn.out
      rw [List.drop_length, withoutI, List.append_nil] at this
      rw [← this]; exact ho

set_option maxHeartbeats 400000 in
theorem step_c {P P' : Nat → Prop} {u v : Value} {c : List (List Int)} {l : List Int} (w : World) (hu : Rows P w u c) (hv : Ints P' w v l) (hsm : ∀ x ∈ c, x.length ≤ 1000000) :
    Calls Try.prog 70 #[u, v] w (RetP (fun w' r => ∃ x, r = .tuple #[.int .i64 (stepIx (stepI 0 c l)), x] ∧ Ints (fun k => w.heap.size ≤ k) w' x (stepOpen (stepI 0 c l))) w) := by
  have hle := hu.le
  go_enter Try.func70, Try.ntmps70
  go_wp2
  go_loopw [6] (fun i wr => ∃ (k : Nat), k ≤ c.length ∧ i = .int .i64 k ∧ Hid (stepI k (c.drop k) l = stepI 0 c l) ∧ Ext w wr) (fun i _ => c.length - (intOf i).toNat)
  case atStart => exact ⟨0, Nat.zero_le _, rfl, rfl, Ext.refl _⟩
  case round =>
    obtain ⟨k, hk, rfl, hn, hx⟩ := hrel
    have hu' := hu.ext hx
    have hv' := hv.ext hx
    by_cases hlt : k < c.length
    · have hst := Lib.hid (stepI_step (a := l) (i := k) hlt)
      have hs1 : (c[k]).length ≤ 1000000 := hsm _ (List.getElem_mem _)
      cases hz : trueI c[k] l
      · go_wp2_with (first | ((with_reducible refine w_len elR.und ?_ ?_ hu'.len ?_); (· rfl); (· rfl); simp only [Act.put, List.setIfInBounds_toArray, List.set_cons_succ, List.set_cons_zero]) | ((with_reducible refine w_ix elR ?_ ?_ ?_ ?_ ?_ hu' hlt ?_); (· rfl); (· exact fun _ => rfl); (· exact fun _ => rfl); (· rfl); (· rfl); intro _ x hxx h1x; simp only [Act.put, List.setIfInBounds_toArray, List.set_cons_succ, List.set_cons_zero]) | (go_at_call 34; refine (true_c _ hxx hv').mono ?_; rintro e w1 ⟨rfl, rfl⟩) | (go_at_call 72; refine (without_c _ hxx hv' hs1).mono ?_; rintro e w1 ⟨r, rfl, hr, hx1⟩) | ((with_reducible refine w_len elI.und ?_ ?_ hr.len ?_); (· rfl); (· rfl); simp only [Act.put, List.setIfInBounds_toArray, List.set_cons_succ, List.set_cons_zero]))
        · go_ret2
          have e : stepI 0 c l = some (k, withoutI c[k] l) := by rw [← hn.out, hst.out, if_neg (by simp [hz]), if_pos (by omega)]
          rw [e]
          exact ⟨_, rfl, ⟨_, rfl, Good.weak hr.arr (fun b hb => hb.elim False.elim (fun h => Nat.le_trans hx.size h))⟩, hx.trans hx1⟩
        · go_roundw
          case rel => exact ⟨k + 1, hlt, by go_num, by show _ = _; rw [← hn.out, hst.out, if_neg (by simp [hz]), if_neg (by omega)], hx.trans hx1⟩
          case measure => simp [intOf]; omega
      · go_wp2_with (first | ((with_reducible refine w_len elR.und ?_ ?_ hu'.len ?_); (· rfl); (· rfl); simp only [Act.put, List.setIfInBounds_toArray, List.set_cons_succ, List.set_cons_zero]) | ((with_reducible refine w_ix elR ?_ ?_ ?_ ?_ ?_ hu' hlt ?_); (· rfl); (· exact fun _ => rfl); (· exact fun _ => rfl); (· rfl); (· rfl); intro _ x hxx h1x; simp only [Act.put, List.setIfInBounds_toArray, List.set_cons_succ, List.set_cons_zero]) | (go_at_call 34; refine (true_c _ hxx hv').mono ?_; rintro e w1 ⟨rfl, rfl⟩))
        go_roundw
        case rel => exact ⟨k + 1, hlt, by go_num, by show _ = _; rw [← hn.out, hst.out, if_pos hz], hx⟩
        case measure => simp [intOf]; omega
    · obtain rfl : k = c.length := by omega
      go_wp2_with ((with_reducible refine w_len elR.und ?_ ?_ hu'.len ?_); (· rfl); (· rfl); simp only [Act.put, List.setIfInBounds_toArray, List.set_cons_succ, List.set_cons_zero])
      go_ret2
      have e : stepI 0 c l = none := by rw [← hn.out, List.drop_length, stepI]
      rw [e]
      exact ⟨_, rfl, ⟨_, rfl, Arr.nil'⟩, hx⟩

/-- Few, from an index on -/
def fewI : Nat → List (List Int) → Bool
  | _, [] => true
  | i, c :: l => if i < 50 then (if 20 < c.length then false else fewI (i + 1) l) else true
theorem fewI_step {l : List (List Int)} {k : Nat} (h : k < l.length) : fewI k (l.drop k) = if k < 50 then (if 20 < (l[k]).length then false else fewI (k + 1) (l.drop (k + 1))) else true := by
  rw [List.drop_eq_getElem_cons h, fewI]
def fewB (vars : Int) (l : List (List Int)) : Bool := if sizesI vars l.length ≠ 0 then true else if fewI 0 l = true then decide (l.length ≤ 40 ∧ vars ≤ 14) else false

set_option maxHeartbeats 2000000 in
theorem few41_c {P : Nat → Prop} {u : Value} {l : List (List Int)} (vars : Int) (w : World) (hv : Rows P w u l) :
    Calls Try.prog 35 #[.agg #[.int .i64 vars, u]] w fun e w' => e = .returned (.bool (fewB vars l)) ∧ Ext w w' := by
  have hle := hv.le
  by_cases hs : sizesI vars l.length = 0
  · have hvars : 0 ≤ vars ∧ vars ≤ 4096 := by unfold sizesI at hs; split at hs <;> omega
    have hck : Hid (fewB vars l = if fewI 0 l = true then decide (l.length ≤ 40 ∧ vars ≤ 14) else false) := by show _ = _; unfold fewB; rw [if_neg (by simp [hs])]
    go_enter Try.func35, Try.ntmps35
    go_wp2_with (go_at_call 48; refine (sizes_c _ _ (hv.ext (Ext.of_alloc _ _))).mono ?_; rintro e w1 ⟨rfl, hx1⟩)
    have hb0 : w1.cell? ⟨w.heap.size, 0, none⟩ = some (.int .i64 vars) := hx1.cell (by simp)
    have hb1 : w1.cell? ⟨w.heap.size, 1, none⟩ = some u := hx1.cell (by simp)
    have hx := (Ext.of_alloc w _).trans hx1
    have hv' := hv.ext hx
    clear hx1 hs
    go_loop [3] (fun i => ∃ k : Nat, k ≤ l.length ∧ i = .int .i64 k ∧ Hid (fewI k (l.drop k) = fewI 0 l)) (fun i => l.length - (intOf i).toNat)
    case atStart => exact ⟨0, Nat.zero_le _, rfl, rfl⟩
    case round =>
      obtain ⟨k, hk, rfl, hn⟩ := hrel
      have hlast : fewI 0 l = true → ∀ b : Bool, b = decide (l.length ≤ 40 ∧ vars ≤ 14) → Hid (fewB vars l = b) := fun h b hb => by show _ = _; rw [hck.out, if_pos h, hb]
      have Hlast := Lib.hid hlast
      clear hlast
      by_cases hlt : k < l.length
      · have hst := Lib.hid (fewI_step hlt)
        by_cases h50 : k < 50
        · go_wp2_with (first | ((with_reducible refine w_len elR.und ?_ ?_ hv'.len ?_); (· rfl); (· rfl); simp only [Act.put, List.setIfInBounds_toArray, List.set_cons_succ, List.set_cons_zero]) | ((with_reducible refine w_ix elR ?_ ?_ ?_ ?_ ?_ hv' hlt ?_); (· rfl); (· exact fun _ => rfl); (· exact fun _ => rfl); (· rfl); (· rfl); intro _ x hxx h1x; simp only [Act.put, List.setIfInBounds_toArray, List.set_cons_succ, List.set_cons_zero]) | ((with_reducible refine w_len elI.und ?_ ?_ (Arr.len hxx) ?_); (· rfl); (· rfl); simp only [Act.put, List.setIfInBounds_toArray, List.set_cons_succ, List.set_cons_zero]))
          · go_ret
            have e : fewI 0 l = false := by rw [← hn.out, hst.out, if_pos h50, if_pos (by omega)]
            exact ⟨ret_b (by rw [hck.out, e]; rfl), hx⟩
          · go_round
            case rel => exact ⟨k + 1, hlt, by go_num, by show _ = _; rw [← hn.out, hst.out, if_pos h50, if_neg (by omega)]⟩
            case measure => simp [intOf]; omega
        · have ht : fewI 0 l = true := by rw [← hn.out, hst.out, if_neg h50]
          have h40 : ¬ l.length ≤ 40 := by omega
          go_wp2_with (first | ((with_reducible refine w_len elR.und ?_ ?_ hv'.len ?_); (· rfl); (· rfl); simp only [Act.put, List.setIfInBounds_toArray, List.set_cons_succ, List.set_cons_zero]))
          go_ret
          exact ⟨ret_b (Hlast.out ht _ (by simp [h40])).out.symm, hx⟩
      · obtain rfl : k = l.length := by omega
        have ht : fewI 0 l = true := by rw [← hn.out, List.drop_length, fewI]
        by_cases h40 : l.length ≤ 40
        · go_wp2_with (first | ((with_reducible refine w_len elR.und ?_ ?_ hv'.len ?_); (· rfl); (· rfl); simp only [Act.put, List.setIfInBounds_toArray, List.set_cons_succ, List.set_cons_zero]))
          go_ret
          exact ⟨ret_b (Hlast.out ht _ (by simp [h40])).out.symm, hx⟩
        · go_wp2_with (first | ((with_reducible refine w_len elR.und ?_ ?_ hv'.len ?_); (· rfl); (· rfl); simp only [Act.put, List.setIfInBounds_toArray, List.set_cons_succ, List.set_cons_zero]))
          go_ret
          exact ⟨ret_b (Hlast.out ht _ (by simp [h40])).out.symm, hx⟩
  · have hck : Hid (fewB vars l = true) := by show _ = _; unfold fewB; rw [if_pos hs]
    go_enter Try.func35, Try.ntmps35
    go_wp2_with (go_at_call 48; refine (sizes_c _ _ (hv.ext (Ext.of_alloc _ _))).mono ?_; rintro e w1 ⟨rfl, hx1⟩)
    go_ret
    exact ⟨ret_b (by rw [hck.out]), (Ext.of_alloc w _).trans hx1⟩

end Go.Proofs.Ytjifihfkoflbiaa
