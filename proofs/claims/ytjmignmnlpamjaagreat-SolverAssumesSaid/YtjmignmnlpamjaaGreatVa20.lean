/- Part 20: walks by contracts, and plain laws. -/
import Derived.Test.YtjmignmnlpamjaaGreatVa17
set_option linter.unusedVariables false
set_option linter.unusedSimpArgs false
set_option linter.unusedSectionVars false
set_option maxRecDepth 100000
set_option maxHeartbeats 4000000
namespace Go.Proofs.YtjmignmnlpamjaaGreat
section
open Go.RowKit

theorem elR : ElT Tryz.prog 22 25 1 (.slice none 0 0) 24 false := ⟨Tryz.underlying22, by kernel_rfl, Tryz.isAgg25, rfl⟩

theorem ZOQ (x : Int) (w : World) : Calls Tryz.prog 99 #[.int .i64 x] w fun e w' => e = .returned (.int .i64 (ZC2 x)) /\ w' = w := by
 unfold ZC2
 go_enter Tryz.func99, Tryz.ntmps99
 go_wp2
 all_goals (go_ret; exact ⟨rfl, rfl⟩)

theorem ZKS (vars l : Int) (w : World) (hv : -9223372036854775807 ≤ vars) (hv2 : vars ≤ 9223372036854775807) : Calls Tryz.prog 98 #[.int .i64 vars, .int .i64 l] w fun e w' => e = .returned (.bool (ZA8 vars l)) /\ w' = w := by
 have hg : ZA8 vars l = (l != 0 && (decide (-vars ≤ l) && decide (l ≤ vars))) := by
  unfold ZA8; by_cases h : l = 0 <;> simp [h]
 generalize ZA8 vars l = g at *
 have Hg := Lib.hid hg
 clear hg
 go_enter Tryz.func98, Tryz.ntmps98
 go_wp2
 all_goals (go_ret; refine ⟨ZC1 ?_, rfl⟩; rw [Hg.out]; simp_all)
 omega

set_option maxHeartbeats 400000 in
theorem ZKU {P : Nat -> Prop} {v : Value} {zs : List Int} (n : Int) (w : World) (hv : ZW P w v zs) :
  Calls Tryz.prog 84 #[v, .int .i64 n] w fun e w' => e = .returned (.bool (ZCS zs n)) /\ w' = w := by
 have hle := hv.le
 go_enter Tryz.func84, Tryz.ntmps84
 go_wp2
 go_loop [5] (fun i => ∃ k : Nat, k ≤ zs.length /\ i = .int .i64 k /\ Hid (ZCS (zs.drop k) n = ZCS zs n)) (fun i => zs.length - (intOf i).toNat)
 case atStart => exact ⟨0, Nat.zero_le _, rfl, rfl⟩
 case round =>
  obtain ⟨k, hk, rfl, hn⟩ := hrel
  by_cases hlt : k < zs.length
  ·have hd : Hid (zs.drop k = zs[k] :: zs.drop (k + 1)) := List.drop_eq_getElem_cons hlt
   by_cases hx : zs[k] = n
   ·go_wp2_with (first | ((with_reducible refine ZAL elI.und ?_ ?_ hv.len ?_); (· rfl); (· rfl); simp only [Act.put, List.setIfInBounds_toArray, List.set_cons_succ, List.set_cons_zero]) | ((with_reducible refine ZBZ elI ?_ ?_ ?_ ?_ ?_ hv hlt ?_); (· rfl); (· exact fun _ => rfl); (· exact fun _ => rfl); (· rfl); (· rfl); intro _; simp only [Act.put, List.setIfInBounds_toArray, List.set_cons_succ, List.set_cons_zero]))
    go_ret
    exact ⟨ZC1 (by rw [<- hn.out, hd.out, ZCS, if_pos hx]), rfl⟩
   ·go_wp2_with (first | ((with_reducible refine ZAL elI.und ?_ ?_ hv.len ?_); (· rfl); (· rfl); simp only [Act.put, List.setIfInBounds_toArray, List.set_cons_succ, List.set_cons_zero]) | ((with_reducible refine ZBZ elI ?_ ?_ ?_ ?_ ?_ hv hlt ?_); (· rfl); (· exact fun _ => rfl); (· exact fun _ => rfl); (· rfl); (· rfl); intro _; simp only [Act.put, List.setIfInBounds_toArray, List.set_cons_succ, List.set_cons_zero]))
    go_round
    case rel => exact ⟨k + 1, hlt, by go_num, by rw [<- hn.out, hd.out, ZCS, if_neg hx]; rfl⟩
    case measure => simp [intOf]; omega
  ·obtain rfl : k = zs.length := by omega
   go_wp2_with ((with_reducible refine ZAL elI.und ?_ ?_ hv.len ?_); (· rfl); (· rfl); simp only [Act.put, List.setIfInBounds_toArray, List.set_cons_succ, List.set_cons_zero])
   go_ret
   exact ⟨ZC1 (by rw [<- hn.out, List.drop_length, ZCS]), rfl⟩

set_option maxHeartbeats 400000 in
theorem ZFv {P : Nat -> Prop} {v : Value} {zs : List Int} (vars : Int) (w : World) (hv : ZW P w v zs) (hv1 : -9223372036854775807 ≤ vars) (hv2 : vars ≤ 9223372036854775807) :
  Calls Tryz.prog 68 #[.int .i64 vars, v] w fun e w' => e = .returned (.int .i64 (ZR vars none zs)) /\ ∃ n, w' = w.drewN n := by
 have hle := hv.le
 go_enter Tryz.func68, Tryz.ntmps68
 go_wp2
 go_loopw [5] (fun i wr => ∃ k m : Nat, k ≤ zs.length /\ i = .int .i64 k /\ Hid (ZR vars (ZCJ zs k) (zs.drop k) = ZR vars none zs) /\ wr = w.drewN m) (fun i _ => zs.length - (intOf i).toNat)
 case atStart => exact ⟨0, 0, Nat.zero_le _, rfl, rfl, rfl⟩
 case round =>
  obtain ⟨k, m, hk, rfl, hn, rfl⟩ := hrel
  have hv' := hv.ext (ZAC w m)
  by_cases hlt : k < zs.length
  ·by_cases hx : ZA8 vars zs[k] = true
   ·go_wp2_with (first | ((with_reducible refine ZAL elI.und ?_ ?_ hv'.len ?_); (· rfl); (· rfl); simp only [Act.put, List.setIfInBounds_toArray, List.set_cons_succ, List.set_cons_zero]) | ((with_reducible refine ZBZ elI ?_ ?_ ?_ ?_ ?_ hv' hlt ?_); (· rfl); (· exact fun _ => rfl); (· exact fun _ => rfl); (· rfl); (· rfl); intro _; simp only [Act.put, List.setIfInBounds_toArray, List.set_cons_succ, List.set_cons_zero]) | (go_at_call 98; refine (ZKS _ _ _ hv1 hv2).mono ?_; rintro e w1 ⟨rfl, rfl⟩))
    cases k with
    | zero =>
     (refine wp_region_quiet_lit (by kernel_rfl) (by kernel_rfl) ?_; (repeat (first | go_big_quiet_skip |  ((with_reducible refine ZKs elI ?_ ?_ ?_ ?_ hv' hlt ZAE ?_ ?_); (· rfl); (· exact fun _ => rfl); (· rfl); (· rfl); (· exact fun _ => rfl); intro _; simp only [Act.put, List.setIfInBounds_toArray, List.set_cons_succ, List.set_cons_zero])  | go_big_quiet_step (fail))); refine wpQuiet_nil ?_; rintro _ ⟨nq, rfl⟩)
     go_wp2
     go_roundw
     case rel => exact ⟨1, m + nq, hlt, rfl, by rw [<- hn.out, ZCf hlt hx]; rfl, rfl⟩
     case measure => simp [intOf]; omega
    | succ k =>
     have hk1 : k < zs.length := by omega
     have hs := Lib.hid (ZCe hlt hx)
     (refine wp_region_quiet_lit (by kernel_rfl) (by kernel_rfl) ?_; (repeat (first | go_big_quiet_skip |  ((with_reducible refine ZKs elI ?_ ?_ ?_ ?_ hv' hlt ZAE ?_ ?_); (· rfl); (· exact fun _ => rfl); (· rfl); (· rfl); (· exact fun _ => rfl); intro _; simp only [Act.put, List.setIfInBounds_toArray, List.set_cons_succ, List.set_cons_zero]) | ((with_reducible refine ZKs elI ?_ ?_ ?_ ?_ hv' hk1 ZAE ?_ ?_); (· rfl); (· exact fun _ => rfl); (· rfl); (· rfl); (· exact fun _ => rfl); intro _; simp only [Act.put, List.setIfInBounds_toArray, List.set_cons_succ, List.set_cons_zero]) | ((with_reducible refine ZIU Tryz.call99 ?_ ?_ (fun w hw => ZFQ hw (ZOQ zs[k+1] _)) ?_); (· rfl); (· rfl); simp only [Act.put, List.setIfInBounds_toArray, List.set_cons_succ, List.set_cons_zero]) | ((with_reducible refine ZIU Tryz.call99 ?_ ?_ (fun w hw => ZFQ hw (ZOQ zs[k] _)) ?_); (· rfl); (· rfl); simp only [Act.put, List.setIfInBounds_toArray, List.set_cons_succ, List.set_cons_zero])  | go_big_quiet_step (fail))); refine wpQuiet_nil ?_; rintro _ ⟨nq, rfl⟩)
     by_cases hp : ZC2 zs[k + 1] ≤ ZC2 zs[k]
     ·go_wp2
      go_ret
      exact ⟨ZBf (by rw [<- hn.out, hs.out, if_pos hp]), m + nq, World.drewN_drewN ..⟩
     ·go_wp2
      go_roundw
      case rel => exact ⟨k + 1 + 1, m + nq, hlt, by go_num, by rw [<- hn.out, hs.out, if_neg hp]; rfl, rfl⟩
      case measure => simp [intOf]; omega
   ·have hb := Lib.hid (ZC7 hlt hx)
    have hx' : ZA8 vars zs[k] = false := by simpa using hx
    clear hx
    go_wp2_with (first | ((with_reducible refine ZAL elI.und ?_ ?_ hv'.len ?_); (· rfl); (· rfl); simp only [Act.put, List.setIfInBounds_toArray, List.set_cons_succ, List.set_cons_zero]) | ((with_reducible refine ZBZ elI ?_ ?_ ?_ ?_ ?_ hv' hlt ?_); (· rfl); (· exact fun _ => rfl); (· exact fun _ => rfl); (· rfl); (· rfl); intro _; simp only [Act.put, List.setIfInBounds_toArray, List.set_cons_succ, List.set_cons_zero]) | (go_at_call 98; refine (ZKS _ _ _ hv1 hv2).mono ?_; rintro e w1 ⟨rfl, rfl⟩))
    go_ret
    exact ⟨ZBf (by rw [<- hn.out, hb.out]), m, rfl⟩
  ·obtain rfl : k = zs.length := by omega
   go_wp2_with ((with_reducible refine ZAL elI.und ?_ ?_ hv'.len ?_); (· rfl); (· rfl); simp only [Act.put, List.setIfInBounds_toArray, List.set_cons_succ, List.set_cons_zero])
   go_ret
   exact ⟨ZBf (by rw [<- hn.out, List.drop_length, ZR]), m, rfl⟩

def RC : Rel (Int × List (List Int)) := fun P w v x => ∃ u, v = .agg #[.int .i64 x.1, u] /\ Rows P w u x.2
instance : Good RC := ⟨fun ⟨u, h, k⟩ hP => ⟨u, h, Good.weak k hP⟩, fun ⟨u, h, k⟩ hm => ⟨u, h, Good.move k hm⟩, fun ⟨u, h, k⟩ => ⟨u, h, Good.bound k⟩⟩

theorem ZGK {P : Nat -> Prop} {u : Value} {l : List (List Int)} (vars : Int) (w : World) (hv : Rows P w u l) :
  Calls Tryz.prog 67 #[.agg #[.int .i64 vars, u]] w fun e w' => e = .returned (.int .i64 (ZBG vars l.length)) /\ Ext w w' := by
 have hle := hv.le
 go_enter Tryz.func67, Tryz.ntmps67
 go_wp2_with ((with_reducible refine ZAL elR.und ?_ ?_ hv.len ?_); (· rfl); (· rfl); simp only [Act.put, List.setIfInBounds_toArray, List.set_cons_succ, List.set_cons_zero])
 all_goals go_ret
 all_goals exact ⟨ZBf (by unfold ZBG; (repeat' split) <;> first | rfl | omega), ZF _ _⟩

theorem ZDP {vars : Int} {l : List (List Int)} {k : Nat} (h : k < l.length) : ZAU vars (l.drop k) = if ZR vars none l[k] ≠ 0 then ZR vars none l[k] else ZAU vars (l.drop (k + 1)) := by
 rw [List.drop_eq_getElem_cons h, ZAU]

set_option maxHeartbeats 400000 in
theorem ZFu {P : Nat -> Prop} {u : Value} {l : List (List Int)} (vars : Int) (w : World) (hv : Rows P w u l) :
  Calls Tryz.prog 29 #[.agg #[.int .i64 vars, u]] w fun e w' => e = .returned (.int .i64 (ZQ vars l)) /\ Ext w w' := by
 have hle := hv.le
 by_cases hs : ZBG vars l.length = 0
 ·have hvars : 0 ≤ vars /\ vars ≤ 4096 := by unfold ZBG at hs; split at hs <;> omega
  have hck : Hid (ZQ vars l = ZAU vars l) := by show _ = _; unfold ZQ; rw [if_neg (by simp [hs])]
  go_enter Tryz.func29, Tryz.ntmps29
  go_wp2_with (go_at_call 67; refine (ZGK _ _ (hv.ext (ZF _ _))).mono ?_; rintro e w1 ⟨rfl, hx1⟩)
  have hb0 : w1.cell? ⟨w.heap.size, 0, none⟩ = some (.int .i64 vars) := hx1.cell (by simp)
  have hb1 : w1.cell? ⟨w.heap.size, 1, none⟩ = some u := hx1.cell (by simp)
  have hx := (ZF w _).trans hx1
  have hv1 := hv.ext hx
  clear hx1 hs
  go_loopw [4] (fun i wr => ∃ k m : Nat, k ≤ l.length /\ i = .int .i64 k /\ Hid (ZAU vars (l.drop k) = ZAU vars l) /\ wr = w1.drewN m) (fun i _ => l.length - (intOf i).toNat)
  case atStart => exact ⟨0, 0, Nat.zero_le _, rfl, rfl, rfl⟩
  case round =>
   obtain ⟨k, m, hk, rfl, hn, rfl⟩ := hrel
   have hv' := hv1.ext (ZAC w1 m)
   by_cases hlt : k < l.length
   ·have hst := Lib.hid (ZDP (vars := vars) hlt)
    go_wp2_with ((with_reducible refine ZAL elR.und ?_ ?_ hv'.len ?_); (· rfl); (· rfl); simp only [Act.put, List.setIfInBounds_toArray, List.set_cons_succ, List.set_cons_zero])
    (refine wp_region_quiet_lit (by kernel_rfl) (by kernel_rfl) ?_; (repeat (first | go_big_quiet_skip |  ((with_reducible refine q_ix elR ?_ ?_ ?_ ?_ hv' hlt ZAE ?_ ?_); (· rfl); (· exact fun _ => rfl); (· rfl); (· rfl); (· exact fun _ => rfl); intro _ c hc h1c; simp only [Act.put, List.setIfInBounds_toArray, List.set_cons_succ, List.set_cons_zero]) | ((with_reducible refine ZIU Tryz.call68 ?_ ?_ (fun w hw => ZFP hw (ZFv vars _ (Good.ext (R := ZW) hc (ZAE _ hw)) (by omega) (by omega))) ?_); (· rfl); (· rfl); simp only [Act.put, List.setIfInBounds_toArray, List.set_cons_succ, List.set_cons_zero])  | go_big_quiet_step (fail))); refine wpQuiet_nil ?_; rintro _ ⟨nq, rfl⟩)
    by_cases hz : ZR vars none l[k] = 0
    ·go_wp2
     go_roundw
     case rel => exact ⟨k + 1, m + nq, hlt, by go_num, by rw [<- hn.out, hst.out, if_neg (by simp [hz])]; rfl, rfl⟩
     case measure => simp [intOf]; omega
    ·go_wp2
     go_ret
     exact ⟨ZBf (by rw [hck.out, <- hn.out, hst.out, if_pos hz]), hx.drewN _⟩
   ·obtain rfl : k = l.length := by omega
    go_wp2_with ((with_reducible refine ZAL elR.und ?_ ?_ hv'.len ?_); (· rfl); (· rfl); simp only [Act.put, List.setIfInBounds_toArray, List.set_cons_succ, List.set_cons_zero])
    go_ret
    exact ⟨ZBf (by rw [hck.out, <- hn.out, List.drop_length, ZAU]), hx.drewN _⟩
 ·have hck : Hid (ZQ vars l = ZBG vars l.length) := by show _ = _; unfold ZQ; rw [if_pos hs]
  go_enter Tryz.func29, Tryz.ntmps29
  go_wp2_with (go_at_call 67; refine (ZGK _ _ (hv.ext (ZF _ _))).mono ?_; rintro e w1 ⟨rfl, hx1⟩)
  go_ret
  exact ⟨ZBf (by rw [hck.out]), (ZF w _).trans hx1⟩

set_option maxHeartbeats 400000 in
theorem ZOL {P P' : Nat -> Prop} {u v : Value} {a b : List Int} (w : World) (hu : ZW P w u a) (hv : ZW P' w v b) :
  Calls Tryz.prog 65 #[u, v] w fun e w' => e = .returned (.bool (ZDu a b)) /\ ∃ n, w' = w.drewN n := by
 have hle := hu.le
 have hle' := hv.le
 by_cases hl : a.length = b.length
 ·have Hl := Lib.hid hl
  have hb : ((a.length : Int) != (b.length : Int)) = false := by rw [hl]; simp
  clear hl
  go_enter Tryz.func65, Tryz.ntmps65
  go_wp2_with (first | ((with_reducible refine ZAL elI.und ?_ ?_ hu.len ?_); (· rfl); (· rfl); simp only [Act.put, List.setIfInBounds_toArray, List.set_cons_succ, List.set_cons_zero]) | ((with_reducible refine ZAL elI.und ?_ ?_ hv.len ?_); (· rfl); (· rfl); simp only [Act.put, List.setIfInBounds_toArray, List.set_cons_succ, List.set_cons_zero]))
  go_loopw [5] (fun i wr => ∃ k m : Nat, k ≤ a.length /\ i = .int .i64 k /\ Hid (ZDu (a.drop k) (b.drop k) = ZDu a b) /\ wr = w.drewN m) (fun i _ => a.length - (intOf i).toNat)
  case atStart => exact ⟨0, 0, Nat.zero_le _, rfl, rfl, rfl⟩
  case round =>
   obtain ⟨k, m, hk, rfl, hn, rfl⟩ := hrel
   have hu' := hu.ext (ZAC w m)
   have hv' := hv.ext (ZAC w m)
   by_cases hlt : k < a.length
   ·have hlt' : k < b.length := by rw [<- Hl.out]; exact hlt
    have hst := Lib.hid (ZJK hlt hlt')
    go_wp2_with (first | ((with_reducible refine ZAL elI.und ?_ ?_ hu'.len ?_); (· rfl); (· rfl); simp only [Act.put, List.setIfInBounds_toArray, List.set_cons_succ, List.set_cons_zero]))
    (refine wp_region_quiet_lit (by kernel_rfl) (by kernel_rfl) ?_; (repeat (first | go_big_quiet_skip |  ((with_reducible refine ZKs elI ?_ ?_ ?_ ?_ hu' hlt ZAE ?_ ?_); (· rfl); (· exact fun _ => rfl); (· rfl); (· rfl); (· exact fun _ => rfl); intro _; simp only [Act.put, List.setIfInBounds_toArray, List.set_cons_succ, List.set_cons_zero]) | ((with_reducible refine ZKs elI ?_ ?_ ?_ ?_ hv' hlt' ZAE ?_ ?_); (· rfl); (· exact fun _ => rfl); (· rfl); (· rfl); (· exact fun _ => rfl); intro _; simp only [Act.put, List.setIfInBounds_toArray, List.set_cons_succ, List.set_cons_zero])  | go_big_quiet_step (fail))); refine wpQuiet_nil ?_; rintro _ ⟨nq, rfl⟩)
    by_cases hz : a[k] = b[k]
    ·have hz' : (a[k] != b[k]) = false := by simp [hz]
     have Hz := Lib.hid hz
     clear hz
     go_wp2
     go_roundw
     case rel => exact ⟨k + 1, m + nq, hlt, by go_num, by rw [<- hn.out, hst.out, if_neg (by simp [Hz.out])]; rfl, rfl⟩
     case measure => simp [intOf]; omega
    ·have hz' : (a[k] != b[k]) = true := by simp [hz]
     go_wp2
     go_ret
     exact ⟨ZC1 (by rw [<- hn.out, hst.out, if_pos hz]), m + nq, World.drewN_drewN ..⟩
   ·obtain rfl : k = a.length := by omega
    go_wp2_with (first | ((with_reducible refine ZAL elI.und ?_ ?_ hu'.len ?_); (· rfl); (· rfl); simp only [Act.put, List.setIfInBounds_toArray, List.set_cons_succ, List.set_cons_zero]))
    go_ret
    exact ⟨ZC1 (by rw [<- hn.out, List.drop_length, Hl.out, List.drop_length, ZDu]), m, rfl⟩
 ·have hb : ((a.length : Int) != (b.length : Int)) = true := by simp; omega
  have hf := Lib.hid (ZG5 hl)
  go_enter Tryz.func65, Tryz.ntmps65
  go_wp2_with (first | ((with_reducible refine ZAL elI.und ?_ ?_ hu.len ?_); (· rfl); (· rfl); simp only [Act.put, List.setIfInBounds_toArray, List.set_cons_succ, List.set_cons_zero]) | ((with_reducible refine ZAL elI.und ?_ ?_ hv.len ?_); (· rfl); (· rfl); simp only [Act.put, List.setIfInBounds_toArray, List.set_cons_succ, List.set_cons_zero]))
  go_ret
  exact ⟨ZC1 (by rw [hf.out]), 0, rfl⟩

set_option maxHeartbeats 400000 in
theorem ZK4 {P P' : Nat -> Prop} {u v : Value} {a b : List (List Int)} (w : World) (hu : Rows P w u a) (hv : Rows P' w v b) :
  Calls Tryz.prog 25 #[u, v] w fun e w' => e = .returned (.bool (ZA5 a b)) /\ ∃ n, w' = w.drewN n := by
 have hle := hu.le
 have hle' := hv.le
 by_cases hl : a.length = b.length
 ·have Hl := Lib.hid hl
  have hb : ((a.length : Int) != (b.length : Int)) = false := by rw [hl]; simp
  clear hl
  go_enter Tryz.func25, Tryz.ntmps25
  go_wp2_with (first | ((with_reducible refine ZAL elR.und ?_ ?_ hu.len ?_); (· rfl); (· rfl); simp only [Act.put, List.setIfInBounds_toArray, List.set_cons_succ, List.set_cons_zero]) | ((with_reducible refine ZAL elR.und ?_ ?_ hv.len ?_); (· rfl); (· rfl); simp only [Act.put, List.setIfInBounds_toArray, List.set_cons_succ, List.set_cons_zero]))
  go_loopw [5] (fun i wr => ∃ k m : Nat, k ≤ a.length /\ i = .int .i64 k /\ Hid (ZA5 (a.drop k) (b.drop k) = ZA5 a b) /\ wr = w.drewN m) (fun i _ => a.length - (intOf i).toNat)
  case atStart => exact ⟨0, 0, Nat.zero_le _, rfl, rfl, rfl⟩
  case round =>
   obtain ⟨k, m, hk, rfl, hn, rfl⟩ := hrel
   have hu' := hu.ext (ZAC w m)
   have hv' := hv.ext (ZAC w m)
   by_cases hlt : k < a.length
   ·have hlt' : k < b.length := by rw [<- Hl.out]; exact hlt
    have hst := Lib.hid (ZGJ hlt hlt')
    go_wp2_with (first | ((with_reducible refine ZAL elR.und ?_ ?_ hu'.len ?_); (· rfl); (· rfl); simp only [Act.put, List.setIfInBounds_toArray, List.set_cons_succ, List.set_cons_zero]))
    (refine wp_region_quiet_lit (by kernel_rfl) (by kernel_rfl) ?_; (repeat (first | go_big_quiet_skip |  ((with_reducible refine q_ix elR ?_ ?_ ?_ ?_ hu' hlt ZAE ?_ ?_); (· rfl); (· exact fun _ => rfl); (· rfl); (· rfl); (· exact fun _ => rfl); intro _ c hc h1c; simp only [Act.put, List.setIfInBounds_toArray, List.set_cons_succ, List.set_cons_zero]) | ((with_reducible refine q_ix elR ?_ ?_ ?_ ?_ hv' hlt' ZAE ?_ ?_); (· rfl); (· exact fun _ => rfl); (· rfl); (· rfl); (· exact fun _ => rfl); intro _ d hd h1d; simp only [Act.put, List.setIfInBounds_toArray, List.set_cons_succ, List.set_cons_zero]) | ((with_reducible refine ZIU Tryz.call65 ?_ ?_ (fun w hw => ZFP hw (ZOL _ (Good.ext (R := ZW) hc (ZAE _ hw)) (Good.ext (R := ZW) hd (ZAE _ hw)))) ?_); (· rfl); (· rfl); simp only [Act.put, List.setIfInBounds_toArray, List.set_cons_succ, List.set_cons_zero])  | go_big_quiet_step (fail))); refine wpQuiet_nil ?_; rintro _ ⟨nq, rfl⟩)
    cases hz : ZDu a[k] b[k]
    ·go_wp2
     go_ret
     exact ⟨ZC1 (by rw [<- hn.out, hst.out, if_neg (by simp [hz])]), m + nq, World.drewN_drewN ..⟩
    ·go_wp2
     go_roundw
     case rel => exact ⟨k + 1, m + nq, hlt, by go_num, by rw [<- hn.out, hst.out, if_pos hz]; rfl, rfl⟩
     case measure => simp [intOf]; omega
   ·obtain rfl : k = a.length := by omega
    go_wp2_with (first | ((with_reducible refine ZAL elR.und ?_ ?_ hu'.len ?_); (· rfl); (· rfl); simp only [Act.put, List.setIfInBounds_toArray, List.set_cons_succ, List.set_cons_zero]))
    go_ret
    exact ⟨ZC1 (by rw [<- hn.out, List.drop_length, Hl.out, List.drop_length, ZA5]), m, rfl⟩
 ·have hb : ((a.length : Int) != (b.length : Int)) = true := by simp; omega
  have hf := Lib.hid (ZEF hl)
  go_enter Tryz.func25, Tryz.ntmps25
  go_wp2_with (first | ((with_reducible refine ZAL elR.und ?_ ?_ hu.len ?_); (· rfl); (· rfl); simp only [Act.put, List.setIfInBounds_toArray, List.set_cons_succ, List.set_cons_zero]) | ((with_reducible refine ZAL elR.und ?_ ?_ hv.len ?_); (· rfl); (· rfl); simp only [Act.put, List.setIfInBounds_toArray, List.set_cons_succ, List.set_cons_zero]))
  go_ret
  exact ⟨ZC1 (by rw [hf.out]), 0, rfl⟩

set_option maxHeartbeats 400000 in
theorem ZK8 {P P' : Nat -> Prop} {u v : Value} {c l : List Int} (w : World) (hu : ZW P w u c) (hv : ZW P' w v l) :
  Calls Tryz.prog 39 #[u, v] w fun e w' => e = .returned (.bool (Zx c l)) /\ w' = w := by
 have hle := hu.le
 go_enter Tryz.func39, Tryz.ntmps39
 go_wp2
 go_loop [5] (fun i => ∃ k : Nat, k ≤ c.length /\ i = .int .i64 k /\ Hid (Zx (c.drop k) l = Zx c l)) (fun i => c.length - (intOf i).toNat)
 case atStart => exact ⟨0, Nat.zero_le _, rfl, rfl⟩
 case round =>
  obtain ⟨k, hk, rfl, hn⟩ := hrel
  by_cases hlt : k < c.length
  ·have hst := Lib.hid (ZJP (l := l) hlt)
   cases hz : ZCS l c[k]
   ·go_wp2_with (first | ((with_reducible refine ZAL elI.und ?_ ?_ hu.len ?_); (· rfl); (· rfl); simp only [Act.put, List.setIfInBounds_toArray, List.set_cons_succ, List.set_cons_zero]) | ((with_reducible refine ZBZ elI ?_ ?_ ?_ ?_ ?_ hu hlt ?_); (· rfl); (· exact fun _ => rfl); (· exact fun _ => rfl); (· rfl); (· rfl); intro _; simp only [Act.put, List.setIfInBounds_toArray, List.set_cons_succ, List.set_cons_zero]) | (go_at_call 84; refine (ZKU _ _ hv).mono ?_; rintro e w1 ⟨rfl, rfl⟩))
    go_round
    case rel => exact ⟨k + 1, hlt, by go_num, by rw [<- hn.out, hst.out, if_neg (by simp [hz])]; rfl⟩
    case measure => simp [intOf]; omega
   ·go_wp2_with (first | ((with_reducible refine ZAL elI.und ?_ ?_ hu.len ?_); (· rfl); (· rfl); simp only [Act.put, List.setIfInBounds_toArray, List.set_cons_succ, List.set_cons_zero]) | ((with_reducible refine ZBZ elI ?_ ?_ ?_ ?_ ?_ hu hlt ?_); (· rfl); (· exact fun _ => rfl); (· exact fun _ => rfl); (· rfl); (· rfl); intro _; simp only [Act.put, List.setIfInBounds_toArray, List.set_cons_succ, List.set_cons_zero]) | (go_at_call 84; refine (ZKU _ _ hv).mono ?_; rintro e w1 ⟨rfl, rfl⟩))
    go_ret
    exact ⟨ZC1 (by rw [<- hn.out, hst.out, if_pos hz]), rfl⟩
  ·obtain rfl : k = c.length := by omega
   go_wp2_with ((with_reducible refine ZAL elI.und ?_ ?_ hu.len ?_); (· rfl); (· rfl); simp only [Act.put, List.setIfInBounds_toArray, List.set_cons_succ, List.set_cons_zero])
   go_ret
   exact ⟨ZC1 (by rw [<- hn.out, List.drop_length, Zx]), rfl⟩

def RetP (p : World -> Value -> Prop) (w : World) (e : Ending) (w' : World) : Prop := ∃ v, e = .returned v /\ p w' v /\ Ext w w'

set_option maxHeartbeats 400000 in
theorem ZLH {P P' : Nat -> Prop} {u v : Value} {c l : List Int} (w : World) (hu : ZW P w u c) (hv : ZW P' w v l) (hsm : c.length ≤ 1000000) :
  Calls Tryz.prog 80 #[u, v] w (RetP (fun w' v => Own w.heap.size 3 RI noB w' v (ZN c l)) w) := by
 have hle := hu.le
 go_enter Tryz.func80, Tryz.ntmps80
 go_wp2
 go_loopw [5, 6] (fun out i wr => ∃ (k : Nat) (acc : List Int), k ≤ c.length /\ acc.length ≤ k /\ i = .int .i64 k /\ Hid (acc ++ ZN (c.drop k) l = ZN c l) /\ Own w.heap.size 3 RI noB wr out acc /\ Ext w wr) (fun _ i _ => c.length - (intOf i).toNat)
 case atStart => exact ⟨0, [], Nat.zero_le _, Nat.le_refl _, rfl, rfl, Own.nil, Ext.refl _⟩
 case round =>
  obtain ⟨k, acc, hk, hacc, rfl, hn, ho, hx⟩ := hrel
  have hu' := hu.ext hx
  have hv' := hv.ext hx
  by_cases hlt : k < c.length
  ·have hst := Lib.hid (ZDc (l := l) hlt)
   cases hz : ZCS l (wrap64 (-c[k]))
   ·go_wp2_with (first | ((with_reducible refine ZAL elI.und ?_ ?_ hu'.len ?_); (· rfl); (· rfl); simp only [Act.put, List.setIfInBounds_toArray, List.set_cons_succ, List.set_cons_zero]) | ((with_reducible refine ZBZ elI ?_ ?_ ?_ ?_ ?_ hu' hlt ?_); (· rfl); (· exact fun _ => rfl); (· exact fun _ => rfl); (· rfl); (· rfl); intro _; simp only [Act.put, List.setIfInBounds_toArray, List.set_cons_succ, List.set_cons_zero]) | (go_at_call 84; refine (ZKU _ _ hv').mono ?_; rintro e w1 ⟨rfl, rfl⟩) | ((with_reducible refine ZD0 elI ?_ ?_ ?_ (c[k]) ?_ ho hx.size (by omega) ?_); (· exact fun _ => rfl); (· rfl); (· rfl); (· rfl); rintro _ v' w' ho' hb' _ _; simp only [Act.put, List.setIfInBounds_toArray, List.set_cons_succ, List.set_cons_zero]))
    go_roundw
    case rel => exact ⟨k + 1, acc ++ [c[k]], hlt, by simp; omega, by go_num, by show _ = _; rw [<- hn.out, hst.out, if_neg (by simp [hz]), List.append_assoc]; rfl, ho', Below.trans hx hb'⟩
    case measure => simp [intOf]; omega
   ·go_wp2_with (first | ((with_reducible refine ZAL elI.und ?_ ?_ hu'.len ?_); (· rfl); (· rfl); simp only [Act.put, List.setIfInBounds_toArray, List.set_cons_succ, List.set_cons_zero]) | ((with_reducible refine ZBZ elI ?_ ?_ ?_ ?_ ?_ hu' hlt ?_); (· rfl); (· exact fun _ => rfl); (· exact fun _ => rfl); (· rfl); (· rfl); intro _; simp only [Act.put, List.setIfInBounds_toArray, List.set_cons_succ, List.set_cons_zero]) | (go_at_call 84; refine (ZKU _ _ hv').mono ?_; rintro e w1 ⟨rfl, rfl⟩))
    go_roundw
    case rel => exact ⟨k + 1, acc, hlt, by omega, by go_num, by show _ = _; rw [<- hn.out, hst.out, if_pos hz], ho, hx⟩
    case measure => simp [intOf]; omega
  ·obtain rfl : k = c.length := by omega
   go_wp2_with ((with_reducible refine ZAL elI.und ?_ ?_ hu'.len ?_); (· rfl); (· rfl); simp only [Act.put, List.setIfInBounds_toArray, List.set_cons_succ, List.set_cons_zero])
   go_ret
   refine ⟨_, rfl, ?_, hx⟩
   have := hn.out
   rw [List.drop_length, ZN, List.append_nil] at this
   rw [<- this]; exact ho

set_option maxHeartbeats 400000 in
theorem ZMn {P P' : Nat -> Prop} {u v : Value} {c : List (List Int)} {l : List Int} (w : World) (hu : Rows P w u c) (hv : ZW P' w v l) (hsm : ∀ x ∈ c, x.length ≤ 1000000) :
  Calls Tryz.prog 107 #[u, v] w (RetP (fun w' r => ∃ x, r = .tuple #[.int .i64 (ZBr (ZAK 0 c l)), x] /\ ZW (fun k => w.heap.size ≤ k) w' x (ZET (ZAK 0 c l))) w) := by
 have hle := hu.le
 go_enter Tryz.func107, Tryz.ntmps107
 go_wp2
 go_loopw [6] (fun i wr => ∃ (k : Nat), k ≤ c.length /\ i = .int .i64 k /\ Hid (ZAK k (c.drop k) l = ZAK 0 c l) /\ Ext w wr) (fun i _ => c.length - (intOf i).toNat)
 case atStart => exact ⟨0, Nat.zero_le _, rfl, rfl, Ext.refl _⟩
 case round =>
  obtain ⟨k, hk, rfl, hn, hx⟩ := hrel
  have hu' := hu.ext hx
  have hv' := hv.ext hx
  by_cases hlt : k < c.length
  ·have hst := Lib.hid (ZJO (a := l) (i := k) hlt)
   have hs1 : (c[k]).length ≤ 1000000 := hsm _ (List.getElem_mem _)
   cases hz : Zx c[k] l
   ·go_wp2_with (first | ((with_reducible refine ZAL elR.und ?_ ?_ hu'.len ?_); (· rfl); (· rfl); simp only [Act.put, List.setIfInBounds_toArray, List.set_cons_succ, List.set_cons_zero]) | ((with_reducible refine ZNp elR ?_ ?_ ?_ ?_ ?_ hu' hlt ?_); (· rfl); (· exact fun _ => rfl); (· exact fun _ => rfl); (· rfl); (· rfl); intro _ x hxx h1x; simp only [Act.put, List.setIfInBounds_toArray, List.set_cons_succ, List.set_cons_zero]) | (go_at_call 39; refine (ZK8 _ hxx hv').mono ?_; rintro e w1 ⟨rfl, rfl⟩) | (go_at_call 80; refine (ZLH _ hxx hv' hs1).mono ?_; rintro e w1 ⟨r, rfl, hr, hx1⟩) | ((with_reducible refine ZAL elI.und ?_ ?_ hr.len ?_); (· rfl); (· rfl); simp only [Act.put, List.setIfInBounds_toArray, List.set_cons_succ, List.set_cons_zero]))
    ·go_ret2
     have e : ZAK 0 c l = some (k, ZN c[k] l) := by rw [<- hn.out, hst.out, if_neg (by simp [hz]), if_pos (by omega)]
     rw [e]
     exact ⟨_, rfl, ⟨_, rfl, Good.weak hr.arr (fun b hb => hb.elim False.elim (fun h => Nat.le_trans hx.size h))⟩, hx.trans hx1⟩
    ·go_roundw
     case rel => exact ⟨k + 1, hlt, by go_num, by show _ = _; rw [<- hn.out, hst.out, if_neg (by simp [hz]), if_neg (by omega)], hx.trans hx1⟩
     case measure => simp [intOf]; omega
   ·go_wp2_with (first | ((with_reducible refine ZAL elR.und ?_ ?_ hu'.len ?_); (· rfl); (· rfl); simp only [Act.put, List.setIfInBounds_toArray, List.set_cons_succ, List.set_cons_zero]) | ((with_reducible refine ZNp elR ?_ ?_ ?_ ?_ ?_ hu' hlt ?_); (· rfl); (· exact fun _ => rfl); (· exact fun _ => rfl); (· rfl); (· rfl); intro _ x hxx h1x; simp only [Act.put, List.setIfInBounds_toArray, List.set_cons_succ, List.set_cons_zero]) | (go_at_call 39; refine (ZK8 _ hxx hv').mono ?_; rintro e w1 ⟨rfl, rfl⟩))
    go_roundw
    case rel => exact ⟨k + 1, hlt, by go_num, by show _ = _; rw [<- hn.out, hst.out, if_pos hz], hx⟩
    case measure => simp [intOf]; omega
  ·obtain rfl : k = c.length := by omega
   go_wp2_with ((with_reducible refine ZAL elR.und ?_ ?_ hu'.len ?_); (· rfl); (· rfl); simp only [Act.put, List.setIfInBounds_toArray, List.set_cons_succ, List.set_cons_zero])
   go_ret2
   have e : ZAK 0 c l = none := by rw [<- hn.out, List.drop_length, ZAK]
   rw [e]
   exact ⟨_, rfl, ⟨_, rfl, ZCP⟩, hx⟩

def ZIw : Nat -> List (List Int) -> Bool
 | _, [] => true
 | i, c :: l => if i < 50 then (if 20 < c.length then false else ZIw (i + 1) l) else true
theorem ZKG {l : List (List Int)} {k : Nat} (h : k < l.length) : ZIw k (l.drop k) = if k < 50 then (if 20 < (l[k]).length then false else ZIw (k + 1) (l.drop (k + 1))) else true := by
 rw [List.drop_eq_getElem_cons h, ZIw]
def ZLr (vars : Int) (l : List (List Int)) : Bool := if ZBG vars l.length ≠ 0 then true else if ZIw 0 l = true then decide (l.length ≤ 40 /\ vars ≤ 14) else false

set_option maxHeartbeats 2000000 in
theorem ZNH {P : Nat -> Prop} {u : Value} {l : List (List Int)} (vars : Int) (w : World) (hv : Rows P w u l) :
  Calls Tryz.prog 28 #[.agg #[.int .i64 vars, u]] w fun e w' => e = .returned (.bool (ZLr vars l)) /\ Ext w w' := by
 have hle := hv.le
 by_cases hs : ZBG vars l.length = 0
 ·have hvars : 0 ≤ vars /\ vars ≤ 4096 := by unfold ZBG at hs; split at hs <;> omega
  have hck : Hid (ZLr vars l = if ZIw 0 l = true then decide (l.length ≤ 40 /\ vars ≤ 14) else false) := by show _ = _; unfold ZLr; rw [if_neg (by simp [hs])]
  go_enter Tryz.func28, Tryz.ntmps28
  go_wp2_with (go_at_call 67; refine (ZGK _ _ (hv.ext (ZF _ _))).mono ?_; rintro e w1 ⟨rfl, hx1⟩)
  have hb0 : w1.cell? ⟨w.heap.size, 0, none⟩ = some (.int .i64 vars) := hx1.cell (by simp)
  have hb1 : w1.cell? ⟨w.heap.size, 1, none⟩ = some u := hx1.cell (by simp)
  have hx := (ZF w _).trans hx1
  have hv' := hv.ext hx
  clear hx1 hs
  go_loop [3] (fun i => ∃ k : Nat, k ≤ l.length /\ i = .int .i64 k /\ Hid (ZIw k (l.drop k) = ZIw 0 l)) (fun i => l.length - (intOf i).toNat)
  case atStart => exact ⟨0, Nat.zero_le _, rfl, rfl⟩
  case round =>
   obtain ⟨k, hk, rfl, hn⟩ := hrel
   have hlast : ZIw 0 l = true -> ∀ b : Bool, b = decide (l.length ≤ 40 /\ vars ≤ 14) -> Hid (ZLr vars l = b) := fun h b hb => by show _ = _; rw [hck.out, if_pos h, hb]
   have Hlast := Lib.hid hlast
   clear hlast
   by_cases hlt : k < l.length
   ·have hst := Lib.hid (ZKG hlt)
    by_cases h50 : k < 50
    ·go_wp2_with (first | ((with_reducible refine ZAL elR.und ?_ ?_ hv'.len ?_); (· rfl); (· rfl); simp only [Act.put, List.setIfInBounds_toArray, List.set_cons_succ, List.set_cons_zero]) | ((with_reducible refine ZNp elR ?_ ?_ ?_ ?_ ?_ hv' hlt ?_); (· rfl); (· exact fun _ => rfl); (· exact fun _ => rfl); (· rfl); (· rfl); intro _ x hxx h1x; simp only [Act.put, List.setIfInBounds_toArray, List.set_cons_succ, List.set_cons_zero]) | ((with_reducible refine ZAL elI.und ?_ ?_ (Arr.len hxx) ?_); (· rfl); (· rfl); simp only [Act.put, List.setIfInBounds_toArray, List.set_cons_succ, List.set_cons_zero]))
     ·go_ret
      have e : ZIw 0 l = false := by rw [<- hn.out, hst.out, if_pos h50, if_pos (by omega)]
      exact ⟨ZC1 (by rw [hck.out, e]; rfl), hx⟩
     ·go_round
      case rel => exact ⟨k + 1, hlt, by go_num, by show _ = _; rw [<- hn.out, hst.out, if_pos h50, if_neg (by omega)]⟩
      case measure => simp [intOf]; omega
    ·have ht : ZIw 0 l = true := by rw [<- hn.out, hst.out, if_neg h50]
     have h40 : ¬ l.length ≤ 40 := by omega
     go_wp2_with (first | ((with_reducible refine ZAL elR.und ?_ ?_ hv'.len ?_); (· rfl); (· rfl); simp only [Act.put, List.setIfInBounds_toArray, List.set_cons_succ, List.set_cons_zero]))
     go_ret
     exact ⟨ZC1 (Hlast.out ht _ (by simp [h40])).out.symm, hx⟩
   ·obtain rfl : k = l.length := by omega
    have ht : ZIw 0 l = true := by rw [<- hn.out, List.drop_length, ZIw]
    by_cases h40 : l.length ≤ 40
    ·go_wp2_with (first | ((with_reducible refine ZAL elR.und ?_ ?_ hv'.len ?_); (· rfl); (· rfl); simp only [Act.put, List.setIfInBounds_toArray, List.set_cons_succ, List.set_cons_zero]))
     go_ret
     exact ⟨ZC1 (Hlast.out ht _ (by simp [h40])).out.symm, hx⟩
    ·go_wp2_with (first | ((with_reducible refine ZAL elR.und ?_ ?_ hv'.len ?_); (· rfl); (· rfl); simp only [Act.put, List.setIfInBounds_toArray, List.set_cons_succ, List.set_cons_zero]))
     go_ret
     exact ⟨ZC1 (Hlast.out ht _ (by simp [h40])).out.symm, hx⟩
 ·have hck : Hid (ZLr vars l = true) := by show _ = _; unfold ZLr; rw [if_pos hs]
  go_enter Tryz.func28, Tryz.ntmps28
  go_wp2_with (go_at_call 67; refine (ZGK _ _ (hv.ext (ZF _ _))).mono ?_; rintro e w1 ⟨rfl, hx1⟩)
  go_ret
  exact ⟨ZC1 (by rw [hck.out]), (ZF w _).trans hx1⟩

end
end Go.Proofs.YtjmignmnlpamjaaGreat
