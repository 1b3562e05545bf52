/- Part 22: walks by contracts, and plain laws. -/
import Derived.Test.YtjmignmnlpamjaaGreatVa18
import Derived.Test.YtjmignmnlpamjaaGreatVa21
set_option linter.unusedVariables false
set_option linter.unusedSimpArgs false
set_option linter.unusedSectionVars false
set_option maxRecDepth 100000
set_option maxHeartbeats 4000000
namespace Go.Proofs.YtjmignmnlpamjaaGreat
section
open Go.RowKit

abbrev IR (x : Int) : Prop := -9223372036854775808 ≤ x /\ x ≤ 9223372036854775807
def ZBm (x : Int) : Int := if ZC2 x ≤ 0 then 0 else ZC2 x

theorem ZHM {x : Int} (h : IR x) : wrap64 x = x := by unfold IR at h; unfold wrap64; omega
theorem ZJT {x : Int} (h : IR x) : wrap64 (-x) = -x \/ x = -9223372036854775808 := by
 by_cases hx : x = -9223372036854775808
 ·exact .inr hx
 ·exact .inl (ZHM ⟨by have := h.1; have := h.2; omega, by have := h.1; omega⟩)
theorem ZGn {vars x : Int} (hx : IR x) (h1 : vars ≤ 9223372036854775807) : ZA8 vars x = true ↔ ¬ (ZBm x < 1 \/ vars < ZBm x) := by
 unfold ZA8 ZBm ZC2
 rw [decide_eq_true_eq]
 rcases ZJT hx with h | rfl
 ·rw [h]; split <;> split <;> omega
 ·have : wrap64 (-(-9223372036854775808)) = -9223372036854775808 := by unfold wrap64; omega
  rw [this]; simp; omega
theorem ZF2 {vars x : Int} (h1 : vars ≤ 9223372036854775807) (h : ZA8 vars x = true) : ZC2 x = (if x < 0 then -x else x) /\ 1 ≤ ZC2 x /\ ZC2 x ≤ vars /\ IR x /\ wrap64 (-x) = -x := by
 unfold ZA8 at h
 rw [decide_eq_true_eq] at h
 have hr : IR x := ⟨by omega, by omega⟩
 have hw : wrap64 (-x) = -x := ZHM ⟨by omega, by omega⟩
 unfold ZC2
 rw [hw]
 split <;> exact ⟨rfl, by omega, by omega, hr, rfl⟩
theorem ZGo {vars x : Int} (h1 : vars ≤ 9223372036854775807) (h : ZA8 vars x = true) : ZBm x = ZC2 x := by
 have := ZF2 h1 h
 unfold ZBm; rw [if_neg (by omega)]

theorem ZKr {x y : Int} (h1 : 1 ≤ ZBm x) : ZBm x ≤ ZBm y ↔ ZC2 x ≤ ZC2 y := by
 unfold ZBm at *
 by_cases a : ZC2 x ≤ 0
 ·rw [if_pos a] at h1; omega
 ·rw [if_neg a] at h1 ⊢
  by_cases b : ZC2 y ≤ 0
  ·rw [if_pos b]; omega
  ·rw [if_neg b]

theorem ZBl (x : Int) (w : World) : Calls Tryz.prog 50 #[.int .i64 x] w fun e w' => e = .returned (.int .i64 (ZBm x)) /\ w' = w := by
 unfold ZBm ZC2
 go_enter Tryz.func50, Tryz.ntmps50
 go_wp2
 all_goals (go_ret; refine ⟨ZBf ?_, rfl⟩)
 all_goals omega

set_option maxHeartbeats 1000000 in
theorem ZGe {P : Nat -> Prop} {v : Value} {zs : List Int} (vars : Int) (w : World) (hv : ZW P w v zs) (hv1 : 0 ≤ vars) (hv2 : vars ≤ 9223372036854775807) (hr : ∀ x ∈ zs, IR x) :
  Calls Tryz.prog 89 #[.int .i64 vars, v] w fun e w' => e = .returned (.int .i64 (ZR vars none zs)) /\ ∃ n, w' = w.drewN n := by
 have hle := hv.le
 go_enter Tryz.func89, Tryz.ntmps89
 go_wp2_with ((with_reducible refine ZAL elI.und ?_ ?_ hv.len ?_); (· rfl); (· rfl); simp only [Act.put, List.setIfInBounds_toArray, List.set_cons_succ, List.set_cons_zero])
 go_loopw [10] (fun i wr => ∃ k m : Nat, k ≤ zs.length /\ i = .int .i64 k /\ Hid (ZR vars (ZCJ zs k) (zs.drop k) = ZR vars none zs) /\ wr = w.drewN m) (fun i _ => zs.length - (intOf i).toNat)
 case atStart => exact ⟨0, 0, Nat.zero_le _, rfl, rfl, rfl⟩
 case round =>
  obtain ⟨k, m, hk, rfl, hn, rfl⟩ := hrel
  have hv' := hv.ext (ZAC w m)
  by_cases hlt : k < zs.length
  ·have hir := hr _ (List.getElem_mem hlt)
   by_cases hx : ZA8 vars zs[k] = true
   ·have hp := ZGo hv2 hx
    obtain ⟨-, hp1, hp2, -, -⟩ := ZF2 hv2 hx
    rw [<- hp] at hp1 hp2
    have Hp := Lib.hid hp
    have Hx := Lib.hid hx
    clear hp hx hir
    by_cases h0 : k = 0
    ·subst h0
     go_wp2_with (first | ((with_reducible refine ZBZ elI ?_ ?_ ?_ ?_ ?_ hv' hlt ?_); (· rfl); (· exact fun _ => rfl); (· exact fun _ => rfl); (· rfl); (· rfl); intro _; simp only [Act.put, List.setIfInBounds_toArray, List.set_cons_succ, List.set_cons_zero]) | (go_at_call 50; refine (ZBl _ _).mono ?_; rintro e w1 ⟨rfl, rfl⟩))
     go_roundw
     case rel => exact ⟨1, m, hlt, rfl, by rw [<- hn.out, ZCf hlt Hx.out]; rfl, rfl⟩
     case measure => simp [intOf]; omega
    ·obtain ⟨j, hj, hjl⟩ : ∃ j, k = j + 1 /\ j < zs.length := ⟨k - 1, by omega, by omega⟩
     have hs : Hid (ZR vars (ZCJ zs k) (zs.drop k) = if ZC2 zs[k] ≤ ZC2 zs[j] then 14 else ZR vars (ZCJ zs (k + 1)) (zs.drop (k + 1))) := by
      subst hj; exact ZCe hlt Hx.out
     have hpos : 0 < k := by omega
     have Hj : Hid ((k : Int) - 1 = (j : Int)) := by show _ = _; omega
     clear h0 hj
     go_wp2_with (first | ((with_reducible refine ZBZ elI ?_ ?_ ?_ ?_ ?_ hv' hlt ?_); (· rfl); (· exact fun _ => rfl); (· exact fun _ => rfl); (· rfl); (· rfl); intro _; simp only [Act.put, List.setIfInBounds_toArray, List.set_cons_succ, List.set_cons_zero]))
     (go_at_call 50; refine (ZBl _ _).mono ?_; rintro e w1 ⟨rfl, rfl⟩)
     go_wp2_with (first | (((with_reducible refine ZNq elI ?_ ?_ ?_ ((k : Int) - 1) Hj.out ?_ ?_ hv' hjl ?_); (· rfl); (· exact fun _ => rfl); (· exact fun _ => rfl); (· rfl); (· rfl); intro _ y hyy h1y; simp only [Act.put, List.setIfInBounds_toArray, List.set_cons_succ, List.set_cons_zero]); cases (show y = .int .i64 zs[j] from hyy)) | (go_at_call 50; refine (ZBl _ _).mono ?_; rintro e w1 ⟨rfl, rfl⟩))
     ·go_ret
      refine ⟨ZBf ?_, m, rfl⟩
      have hle2 : ZBm zs[k] ≤ ZBm zs[j] := by omega
      rw [<- hn.out, hs.out, if_pos ((ZKr hp1).1 hle2)]
     ·go_roundw
      case rel =>
       have hle2 : ¬ ZBm zs[k] ≤ ZBm zs[j] := by omega
       exact ⟨k + 1, m, hlt, by go_num, by rw [<- hn.out, hs.out, if_neg (fun h => hle2 ((ZKr hp1).2 h))]; rfl, rfl⟩
      case measure => simp [intOf]; omega
   ·have hb := Lib.hid (ZC7 hlt hx)
    have hx' : ZBm zs[k] < 1 \/ vars < ZBm zs[k] := Classical.not_not.1 fun h => hx ((ZGn hir hv2).2 h)
    clear hx hr hir
    by_cases hlow : ZBm zs[k] < 1
    ·clear hx'
     go_wp2_with (first | ((with_reducible refine ZBZ elI ?_ ?_ ?_ ?_ ?_ hv' hlt ?_); (· rfl); (· exact fun _ => rfl); (· exact fun _ => rfl); (· rfl); (· rfl); intro _; simp only [Act.put, List.setIfInBounds_toArray, List.set_cons_succ, List.set_cons_zero]) | (go_at_call 50; refine (ZBl _ _).mono ?_; rintro e w1 ⟨rfl, rfl⟩))
     go_ret
     exact ⟨ZBf (by rw [<- hn.out, hb.out]), m, rfl⟩
    ·have hhi : vars < ZBm zs[k] := hx'.resolve_left hlow
     clear hx'
     go_wp2_with (first | ((with_reducible refine ZBZ elI ?_ ?_ ?_ ?_ ?_ hv' hlt ?_); (· rfl); (· exact fun _ => rfl); (· exact fun _ => rfl); (· rfl); (· rfl); intro _; simp only [Act.put, List.setIfInBounds_toArray, List.set_cons_succ, List.set_cons_zero]) | (go_at_call 50; refine (ZBl _ _).mono ?_; rintro e w1 ⟨rfl, rfl⟩))
     go_ret
     exact ⟨ZBf (by rw [<- hn.out, hb.out]), m, rfl⟩
  ·obtain rfl : k = zs.length := by omega
   go_wp2
   go_ret
   exact ⟨ZBf (by rw [<- hn.out, List.drop_length, ZR]), m, rfl⟩

theorem ZMm {P : Nat -> Prop} {u : Value} {l : List (List Int)} (vars : Int) (w : World) (hv : Rows P w u l) :
  Calls Tryz.prog 48 #[.agg #[.int .i64 vars, u]] w fun e w' => e = .returned (.int .i64 (ZBG vars l.length)) /\ Ext w w' := by
 have hle := hv.le
 go_enter Tryz.func48, Tryz.ntmps48
 go_wp2_with ((with_reducible refine ZAL elR.und ?_ ?_ hv.len ?_); (· rfl); (· rfl); simp only [Act.put, List.setIfInBounds_toArray, List.set_cons_succ, List.set_cons_zero])
 all_goals go_ret
 all_goals exact ⟨ZBf (by unfold ZBG; (repeat' split) <;> first | rfl | omega), ZF _ _⟩

abbrev IRR (l : List (List Int)) : Prop := ∀ c ∈ l, ∀ x ∈ c, IR x

set_option maxHeartbeats 400000 in
theorem ZEQ {P : Nat -> Prop} {u : Value} {l : List (List Int)} (vars : Int) (w : World) (hv : Rows P w u l) (hr : IRR l) :
  Calls Tryz.prog 42 #[.agg #[.int .i64 vars, u]] w fun e w' => e = .returned (.int .i64 (ZQ vars l)) /\ Ext w w' := by
 have hle := hv.le
 by_cases hs : ZBG vars l.length = 0
 ·have hvars : 0 ≤ vars /\ vars ≤ 4096 := by unfold ZBG at hs; split at hs <;> omega
  have hck : Hid (ZQ vars l = ZAU vars l) := by show _ = _; unfold ZQ; rw [if_neg (by simp [hs])]
  go_enter Tryz.func42, Tryz.ntmps42
  go_wp2_with (first | (go_at_call 48; refine (ZMm _ _ (hv.ext (ZF _ _))).mono ?_; rintro e w1 ⟨rfl, hx1⟩; have hb1 : w1.cell? ⟨w.heap.size, 1, none⟩ = some u := hx1.cell (by simp)) | ((with_reducible refine ZAL elR.und ?_ ?_ hv.len ?_); (· rfl); (· rfl); simp only [Act.put, List.setIfInBounds_toArray, List.set_cons_succ, List.set_cons_zero]))
  have hb0 : w1.cell? ⟨w.heap.size, 0, none⟩ = some (.int .i64 vars) := hx1.cell (by simp)
  have hx := (ZF w _).trans hx1
  have hv1 := hv.ext hx
  clear hx1 hs
  go_loopw [15] (fun i wr => ∃ k m : Nat, k ≤ l.length /\ i = .int .i64 k /\ Hid (ZAU vars (l.drop k) = ZAU vars l) /\ wr = w1.drewN m) (fun i _ => l.length - (intOf i).toNat)
  case atStart => exact ⟨0, 0, Nat.zero_le _, rfl, rfl, rfl⟩
  case round =>
   obtain ⟨k, m, hk, rfl, hn, rfl⟩ := hrel
   have hv' := hv1.ext (ZAC w1 m)
   by_cases hlt : k < l.length
   ·have hst := Lib.hid (ZDP (vars := vars) hlt)
    have hrk := hr _ (List.getElem_mem hlt)
    by_cases hz : ZR vars none l[k] = 0
    ·go_wp2_with (first | ((with_reducible refine ZNp elR ?_ ?_ ?_ ?_ ?_ hv' hlt ?_); (· rfl); (· exact fun _ => rfl); (· exact fun _ => rfl); (· rfl); (· rfl); intro _ c hc h1c; simp only [Act.put, List.setIfInBounds_toArray, List.set_cons_succ, List.set_cons_zero]) | (go_at_call 89; refine (ZGe vars _ hc (by omega) (by omega) hrk).mono ?_; rintro e w2 ⟨rfl, nq, rfl⟩))
     go_roundw
     case rel => exact ⟨k + 1, m + nq, hlt, by go_num, by rw [<- hn.out, hst.out, if_neg (by simp [hz])]; rfl, rfl⟩
     case measure => simp [intOf]; omega
    ·go_wp2_with (first | ((with_reducible refine ZNp elR ?_ ?_ ?_ ?_ ?_ hv' hlt ?_); (· rfl); (· exact fun _ => rfl); (· exact fun _ => rfl); (· rfl); (· rfl); intro _ c hc h1c; simp only [Act.put, List.setIfInBounds_toArray, List.set_cons_succ, List.set_cons_zero]) | (go_at_call 89; refine (ZGe vars _ hc (by omega) (by omega) hrk).mono ?_; rintro e w2 ⟨rfl, nq, rfl⟩))
     go_ret
     exact ⟨ZBf (by rw [hck.out, <- hn.out, hst.out, if_pos hz]), hx.drewN _⟩
   ·obtain rfl : k = l.length := by omega
    go_wp2
    go_ret
    exact ⟨ZBf (by rw [hck.out, <- hn.out, List.drop_length, ZAU]), hx.drewN _⟩
 ·have hck : Hid (ZQ vars l = ZBG vars l.length) := by show _ = _; unfold ZQ; rw [if_pos hs]
  go_enter Tryz.func42, Tryz.ntmps42
  go_wp2_with (go_at_call 48; refine (ZMm _ _ (hv.ext (ZF _ _))).mono ?_; rintro e w1 ⟨rfl, hx1⟩)
  go_ret
  exact ⟨ZBf (by rw [hck.out]), (ZF w _).trans hx1⟩

end
section
open Go.RowKit

def ZCc (zs : List Int) (k : Nat) : Int := match ZCJ zs k with
 | none => 0
 | some p => ZC2 p

theorem ZFI {vars : Int} {zs : List Int} {k : Nat} (h : k < zs.length) (hx : ZA8 vars zs[k] = true) (h1 : 1 ≤ ZC2 zs[k]) :
  ZR vars (ZCJ zs k) (zs.drop k) = if ZC2 zs[k] ≤ ZCc zs k then 14 else ZR vars (ZCJ zs (k + 1)) (zs.drop (k + 1)) := by
 cases k with
 | zero => rw [ZCf h hx, if_neg (by show ¬ ZC2 zs[0] ≤ 0; omega)]
 | succ k =>
  have hb : ZCc zs (k + 1) = ZC2 zs[k] := by unfold ZCc; rw [ZCJ, List.getElem?_eq_getElem (by omega)]
  rw [ZCe h hx, hb]

set_option maxHeartbeats 1000000 in
theorem ZIZ {P : Nat -> Prop} {v : Value} {zs : List Int} (vars : Int) (w : World) (hv : ZW P w v zs) (hv1 : 0 ≤ vars) (hv2 : vars ≤ 9223372036854775807) :
  Calls Tryz.prog 85 #[.int .i64 vars, v] w fun e w' => e = .returned (.int .i64 (ZR vars none zs)) /\ w' = w := by
 have hle := hv.le
 go_enter Tryz.func85, Tryz.ntmps85
 go_wp2_with ((with_reducible refine ZAL elI.und ?_ ?_ hv.len ?_); (· rfl); (· rfl); simp only [Act.put, List.setIfInBounds_toArray, List.set_cons_succ, List.set_cons_zero])
 go_loop [5, 11] (fun b i => ∃ k : Nat, k ≤ zs.length /\ i = .int .i64 k /\ b = .int .i64 (ZCc zs k) /\ Hid (ZR vars (ZCJ zs k) (zs.drop k) = ZR vars none zs)) (fun _ i => zs.length - (intOf i).toNat)
 case atStart => exact ⟨0, Nat.zero_le _, rfl, rfl, rfl⟩
 case round =>
  obtain ⟨k, hk, rfl, rfl, hn⟩ := hrel
  by_cases hlt : k < zs.length
  ·by_cases hx : ZA8 vars zs[k] = true
   ·obtain ⟨hva, hp1, hp2, -, hw⟩ := ZF2 hv2 hx
    have Hx := Lib.hid hx
    have hgood := hx
    unfold ZA8 at hgood
    rw [decide_eq_true_eq] at hgood
    have hst := Lib.hid (ZFI hlt hx hp1)
    have hz0 : (zs[k] == 0) = false := beq_eq_false_iff_ne.2 hgood.1
    have hz1 : decide (zs[k] < -vars) = false := decide_eq_false (by omega)
    have hz2 : decide (vars < zs[k]) = false := decide_eq_false (by omega)
    have hlo := hgood.2.1
    have hhi := hgood.2.2
    have hnext : Hid (ZCc zs (k + 1) = ZC2 zs[k]) := by show _ = _; unfold ZCc; rw [ZCJ, List.getElem?_eq_getElem hlt]
    by_cases hs : zs[k] < -zs[k]
    ·have hvs : Hid (ZC2 zs[k] = -zs[k]) := by show _ = _; rw [hva, if_pos (by omega)]
     clear hx hva hw hgood hp1 hp2
     by_cases hbf : -zs[k] ≤ ZCc zs k
     ·go_wp2_with (first | ((with_reducible refine ZBZ elI ?_ ?_ ?_ ?_ ?_ hv hlt ?_); (· rfl); (· exact fun _ => rfl); (· exact fun _ => rfl); (· rfl); (· rfl); intro _; simp only [Act.put, List.setIfInBounds_toArray, List.set_cons_succ, List.set_cons_zero]))
      go_ret
      exact ⟨ZBf (by rw [<- hn.out, hst.out, hvs.out, if_pos hbf]), rfl⟩
     ·go_wp2_with (first | ((with_reducible refine ZBZ elI ?_ ?_ ?_ ?_ ?_ hv hlt ?_); (· rfl); (· exact fun _ => rfl); (· exact fun _ => rfl); (· rfl); (· rfl); intro _; simp only [Act.put, List.setIfInBounds_toArray, List.set_cons_succ, List.set_cons_zero]))
      go_round
      case rel => exact ⟨k + 1, hlt, by go_num, by rw [hnext.out, hvs.out], by show _ = _; rw [<- hn.out, hst.out, hvs.out, if_neg hbf]⟩
      case measure => simp [intOf]; omega
    ·have hvs : Hid (ZC2 zs[k] = zs[k]) := by show _ = _; rw [hva, if_neg (by omega)]
     clear hx hva hw hgood hp1 hp2
     by_cases hbf : zs[k] ≤ ZCc zs k
     ·go_wp2_with (first | ((with_reducible refine ZBZ elI ?_ ?_ ?_ ?_ ?_ hv hlt ?_); (· rfl); (· exact fun _ => rfl); (· exact fun _ => rfl); (· rfl); (· rfl); intro _; simp only [Act.put, List.setIfInBounds_toArray, List.set_cons_succ, List.set_cons_zero]))
      go_ret
      exact ⟨ZBf (by rw [<- hn.out, hst.out, hvs.out, if_pos hbf]), rfl⟩
     ·go_wp2_with (first | ((with_reducible refine ZBZ elI ?_ ?_ ?_ ?_ ?_ hv hlt ?_); (· rfl); (· exact fun _ => rfl); (· exact fun _ => rfl); (· rfl); (· rfl); intro _; simp only [Act.put, List.setIfInBounds_toArray, List.set_cons_succ, List.set_cons_zero]))
      go_round
      case rel => exact ⟨k + 1, hlt, by go_num, by rw [hnext.out, hvs.out], by show _ = _; rw [<- hn.out, hst.out, hvs.out, if_neg hbf]⟩
      case measure => simp [intOf]; omega
   ·have hb := Lib.hid (ZC7 hlt hx)
    have hx' : zs[k] = 0 \/ zs[k] < -vars \/ vars < zs[k] := by unfold ZA8 at hx; rw [decide_eq_true_eq] at hx; omega
    clear hx
    go_wp2_with (first | ((with_reducible refine ZBZ elI ?_ ?_ ?_ ?_ ?_ hv hlt ?_); (· rfl); (· exact fun _ => rfl); (· exact fun _ => rfl); (· rfl); (· rfl); intro _; simp only [Act.put, List.setIfInBounds_toArray, List.set_cons_succ, List.set_cons_zero]))
    all_goals first | omega | skip
    all_goals go_ret
    all_goals exact ⟨ZBf (by rw [<- hn.out, hb.out]), rfl⟩
  ·obtain rfl : k = zs.length := by omega
   go_wp2
   go_ret
   exact ⟨ZBf (by rw [<- hn.out, List.drop_length, ZR]), rfl⟩

end
section
open Go.RowKit

def IRow (w : World) (b : Nat) (vals : List Int) : Prop := w.heap[b]? = some (.cells (vals.map (Value.int .i64)).toArray 3 (0, 0))

theorem IRow.cell {w : World} {b : Nat} {vals : List Int} (h : IRow w b vals) {k : Nat} (hk : k < vals.length) : w.cell? ⟨b, k, none⟩ = some (.int .i64 vals[k]) := by
 simp [World.cell?, show w.heap[b]? = _ from h, hk]
theorem IRow.frozen {w : World} {b : Nat} {vals : List Int} (h : IRow w b vals) (k : Nat) : w.frozen? ⟨b, k, none⟩ = false := by
 simp [World.frozen?, show w.heap[b]? = _ from h]
theorem IRow.arr {w : World} {b : Nat} {vals : List Int} {cap : Nat} (h : IRow w b vals) (h1 : vals.length ≤ cap) (h2 : cap ≤ maxLen) : Arr RI (fun k => k = b) w (.slice (some ⟨b, 0, none⟩) vals.length cap) vals :=
 ⟨_, _, rfl, h1, h2, fun k hk => ⟨_, b, 0, rfl, rfl, rfl, rfl, by rw [Nat.zero_add]; exact h.cell hk⟩⟩
theorem IRow.set {w : World} {b : Nat} {vals : List Int} (h : IRow w b vals) (k : Nat) (n : Int) : IRow (w.setCell ⟨b, k, none⟩ (.int .i64 n)) b (vals.set k n) := by
 have hg := show w.heap[b]? = _ from h
 show _ = _
 rw [setCell_eq_setRow w b k _ _ _ _ hg, setRow_heap w b _ _ _ _ hg]
 congr 2
 apply Array.ext'
 simp [List.map_set]
theorem IRow.below {w w' : World} {b B : Nat} {vals : List Int} (h : IRow w b vals) (e : Below B w w') (hb : b < B) : IRow w' b vals := (e.block b hb).trans h
theorem IRow.lt {w : World} {b : Nat} {vals : List Int} (h : IRow w b vals) : b < w.heap.size := (Array.getElem?_eq_some_iff.1 (show w.heap[b]? = _ from h)).1

section
variable {P : Program} {ops : Array Oper} {rest : List Oper} {o : Oper} {a : Act} {Q : Exit -> Act -> World -> Prop} {w : World} {t e : TypeId} {z : Value}

theorem ZH0 (hg : o.guard = none) {w' : World} (h : (execOp a.eval o).run P w = .ok .skip w') (hk : wpList P ops Q rest (a.put o.dst undef) w') : wpList P ops Q (o :: rest) a w :=
 wpList_plain hg fun K hK => by unfold Oper.wp; rw [h]; exact hK _ _ hk

theorem ZMp {x i y : Operand} {d : Tmp} {ty1 ty2 : TypeId} {ps1 ps2 : String} {af1 af2 : Array Edge} (E : ElT P t e 1 z 8 false)
  (hdl : ∀ p : Value, (a.put (some d) p).eval (.tmp d) = p) {b cap : Nat} {vals : List Int} (hx : a.eval x = .slice (some ⟨b, 0, none⟩) vals.length cap) (k : Nat) (j : Int) (hj : j = (k : Int)) (hi : a.eval i = .int .i64 j)
  {n : Int} (hy : ∀ p : Value, (a.put (some d) p).eval y = .int .i64 n) (hrow : IRow w b vals) (hk : k < vals.length)
  (h : ∀ p : Value, IRow (w.setCell ⟨b, k, none⟩ (.int .i64 n)) b (vals.set k n) -> wpList P ops Q rest (a.put (some d) p) (w.setCell ⟨b, k, none⟩ (.int .i64 n))) :
  wpList P ops Q (⟨some d, .indexAddr t x i, ty1, ps1, af1, none⟩ :: ⟨none, .store e (.tmp d) y, ty2, ps2, af2, none⟩ :: rest) a w := by
 have hix := ZAp (w := w) E b 0 vals.length cap k .i64 hk
 rw [Nat.mul_one, Nat.zero_add] at hix
 refine Z6 rfl (v := .pointer (some ⟨b, k, none⟩)) (w' := w) ?_ ?_
 ·unfold execOp
  simp only [hx, hi, hj, Sem.run_bind, hix, Result.andThen_ok, Sem.run_pure]
 ·refine ZH0 rfl (w' := w.setCell ⟨b, k, none⟩ (.int .i64 n)) ?_ (h _ (hrow.set k n))
  have he := hdl (.pointer (some ⟨b, k, none⟩))
  have hy' := hy (.pointer (some ⟨b, k, none⟩))
  have hc := hrow.cell hk
  have hf := hrow.frozen k
  unfold execOp
  simp only [he, hy', Instr.storeAt, Instr.sureAddr, storeVar, Sem.run_bind, E.size, Result.andThen_ok, Sem.run_pure]
  have hst : (store ((⟨b, k, none⟩ : Addr).add 0) (.int .i64 n)).run P w = .ok () (w.setCell ⟨b, k, none⟩ (.int .i64 n)) := by
   rw [show ((⟨b, k, none⟩ : Addr).add 0) = ⟨b, k, none⟩ from rfl, run_store_int]
   simp [stored, hc, hf]
  simp [Value.cells, storeCells, hst]
end

def PS (bp b : Nat) (w : World) (vals : List Int) : Prop := bp ≠ b /\ vals.length ≤ maxLen /\ w.cell? ⟨bp, 0, none⟩ = some (.slice (some ⟨b, 0, none⟩) vals.length vals.length) /\ IRow w b vals


set_option maxHeartbeats 1000000 in
theorem ZGN {bp b : Nat} {w : World} {vals : List Int} {x : Int} (h : PS bp b w vals) (hi : x.natAbs < vals.length) (hv : ∀ v ∈ vals, -1 ≤ v /\ v ≤ 1) :
  Calls Tryz.prog 134 #[.pointer (some ⟨bp, 0, none⟩), .int .i64 x] w fun e w' => e = .returned (.int .i64 (ZBg vals x)) /\ w' = w := by
 obtain ⟨hne, hm, hc, hrow⟩ := h
 have harr := hrow.arr (Nat.le_refl _) hm
 have hle := harr.le
 by_cases hx : x < 0
 ·have hk : (-x).toNat < vals.length := by omega
  have Hj : Hid (-x = (((-x).toNat : Nat) : Int)) := by show _ = _; omega
  obtain ⟨hv1, hv2⟩ := hv _ (List.getElem_mem hk)
  have hxr : -9223372036854775807 ≤ x := by omega
  have hres : Hid (ZBg vals x = -vals[(-x).toNat]) := by show _ = _; unfold ZBg; rw [if_pos hx, List.getD_eq_getElem?_getD, List.getElem?_eq_getElem hk]; rfl
  clear hv hi
  go_enter Tryz.func134, Tryz.ntmps134
  go_wp2_with (first | (((with_reducible refine ZNq elI ?_ ?_ ?_ (-x) Hj.out ?_ ?_ harr hk ?_); (· rfl); (· exact fun _ => rfl); (· exact fun _ => rfl); (· rfl); (· rfl); intro _ y hyy h1y; simp only [Act.put, List.setIfInBounds_toArray, List.set_cons_succ, List.set_cons_zero]); cases (show y = .int .i64 vals[(-x).toNat] from hyy)))
  go_ret
  exact ⟨ZBf (by rw [hres.out]), rfl⟩
 ·have hk : x.toNat < vals.length := by omega
  have Hj : Hid (x = ((x.toNat : Nat) : Int)) := by show _ = _; omega
  have hres : Hid (ZBg vals x = vals[x.toNat]) := by show _ = _; unfold ZBg; rw [if_neg hx, List.getD_eq_getElem?_getD, List.getElem?_eq_getElem hk]; rfl
  clear hv hi
  go_enter Tryz.func134, Tryz.ntmps134
  go_wp2_with (first | (((with_reducible refine ZNq elI ?_ ?_ ?_ x Hj.out ?_ ?_ harr hk ?_); (· rfl); (· exact fun _ => rfl); (· exact fun _ => rfl); (· rfl); (· rfl); intro _ y hyy h1y; simp only [Act.put, List.setIfInBounds_toArray, List.set_cons_succ, List.set_cons_zero]); cases (show y = .int .i64 vals[x.toNat] from hyy)))
  go_ret
  exact ⟨ZBf (by rw [hres.out]), rfl⟩

set_option maxHeartbeats 1000000 in
theorem ZIB {bp b : Nat} {w : World} {vals : List Int} {x : Int} (h : PS bp b w vals) (hi : x.natAbs < vals.length) :
  Calls Tryz.prog 108 #[.pointer (some ⟨bp, 0, none⟩), .int .i64 x] w fun e w' => (∃ v, e = .returned v) /\ PS bp b w' (ZDw vals x) /\ ∃ k u, w' = w.setCell ⟨b, k, none⟩ u := by
 obtain ⟨hne, hm, hc, hrow⟩ := h
 have hle : (vals.length : Int) ≤ 9223372036854775807 := by simp only [maxLen] at hm; omega
 by_cases hx : x < 0
 ·have hk : (-x).toNat < vals.length := by omega
  have Hj : Hid (-x = (((-x).toNat : Nat) : Int)) := by show _ = _; omega
  have hxr : -9223372036854775807 ≤ x := by omega
  have hres : Hid (ZDw vals x = vals.set (-x).toNat (-1)) := by show _ = _; unfold ZDw; rw [if_pos hx]
  clear hi
  go_enter Tryz.func108, Tryz.ntmps108
  go_wp2_with (first | ((with_reducible refine ZMp (cap := vals.length) (n := -1) elI ?_ ?_ (-x).toNat (-x) Hj.out ?_ ?_ hrow hk ?_); (· exact fun _ => rfl); (· rfl); (· rfl); (· exact fun _ => rfl); intro _ hrow2; simp only [Act.put, List.setIfInBounds_toArray, List.set_cons_succ, List.set_cons_zero]))
  go_end0
  refine ⟨⟨_, rfl⟩, ?_, _, _, rfl⟩
  rw [hres.out]
  refine ⟨hne, by rw [List.length_set]; exact hm, ?_, hrow2⟩
  rw [List.length_set, World.cell?_setCell_other (h := fun e => hne (congrArg Addr.block e).symm)]
  exact hc
 ·have hk : x.toNat < vals.length := by omega
  have Hj : Hid (x = ((x.toNat : Nat) : Int)) := by show _ = _; omega
  have hres : Hid (ZDw vals x = vals.set x.toNat 1) := by show _ = _; unfold ZDw; rw [if_neg hx]
  clear hi
  go_enter Tryz.func108, Tryz.ntmps108
  go_wp2_with (first | ((with_reducible refine ZMp (cap := vals.length) (n := 1) elI ?_ ?_ x.toNat x Hj.out ?_ ?_ hrow hk ?_); (· exact fun _ => rfl); (· rfl); (· rfl); (· exact fun _ => rfl); intro _ hrow2; simp only [Act.put, List.setIfInBounds_toArray, List.set_cons_succ, List.set_cons_zero]))
  go_end0
  refine ⟨⟨_, rfl⟩, ?_, _, _, rfl⟩
  rw [hres.out]
  refine ⟨hne, by rw [List.length_set]; exact hm, ?_, hrow2⟩
  rw [List.length_set, World.cell?_setCell_other (h := fun e => hne (congrArg Addr.block e).symm)]
  exact hc

theorem ZJQ {vals : List Int} {c : List Int} {k : Nat} {o : Int} (h : k < c.length) : ZA0 vals o (c.drop k) = if 0 < ZBg vals c[k] \/ (ZBg vals c[k] = 0 /\ o ≠ 0) then (0, false) else if ZBg vals c[k] = 0 then ZA0 vals c[k] (c.drop (k + 1)) else ZA0 vals o (c.drop (k + 1)) := by
 rw [List.drop_eq_getElem_cons h, ZA0]

set_option maxHeartbeats 2000000 in
theorem ZOP {bp b : Nat} {w : World} {vals : List Int} {P : Nat -> Prop} {v : Value} {c : List Int} (h : PS bp b w vals) (hc : ZW P w v c) (hi : ∀ x ∈ c, x.natAbs < vals.length) (hv : ∀ v ∈ vals, -1 ≤ v /\ v ≤ 1) :
  Calls Tryz.prog 121 #[.pointer (some ⟨bp, 0, none⟩), v] w fun e w' => e = .returned (.tuple #[.int .i64 (ZA0 vals 0 c).1, .bool (ZA0 vals 0 c).2]) /\ w' = w := by
 have hle := hc.le
 have HI := Lib.hid hi
 have HV := Lib.hid hv
 clear hi hv
 go_enter Tryz.func121, Tryz.ntmps121
 go_wp2_with ((with_reducible refine ZAL elI.und ?_ ?_ hc.len ?_); (· rfl); (· rfl); simp only [Act.put, List.setIfInBounds_toArray, List.set_cons_succ, List.set_cons_zero])
 go_loop [6, 12] (fun o i => ∃ (k : Nat) (q : Int), k ≤ c.length /\ i = .int .i64 k /\ o = .int .i64 q /\ Hid (ZA0 vals q (c.drop k) = ZA0 vals 0 c)) (fun _ i => c.length - (intOf i).toNat)
 case atStart => exact ⟨0, 0, Nat.zero_le _, rfl, rfl, rfl⟩
 case round =>
  obtain ⟨k, q, hk, rfl, rfl, hn⟩ := hrel
  by_cases hlt : k < c.length
  ·have hst := Lib.hid (ZJQ (vals := vals) (o := q) hlt)
   have hin := Lib.hid (HI.out _ (List.getElem_mem hlt))
   by_cases h1 : 0 < ZBg vals c[k]
   ·go_wp2_with (first | ((with_reducible refine ZBZ elI ?_ ?_ ?_ ?_ ?_ hc hlt ?_); (· rfl); (· exact fun _ => rfl); (· exact fun _ => rfl); (· rfl); (· rfl); intro _; simp only [Act.put, List.setIfInBounds_toArray, List.set_cons_succ, List.set_cons_zero]) | (go_at_call 134; refine (ZGN h hin.out HV.out).mono ?_; rintro e w1 ⟨rfl, rfl⟩))
    go_ret2
    have e : ZA0 vals 0 c = (0, false) := by rw [<- hn.out, hst.out, if_pos (.inl h1)]
    exact ⟨by rw [e]; rfl, rfl⟩
   ·by_cases h2 : ZBg vals c[k] = 0
    ·have hb2 : (ZBg vals c[k] == 0) = true := by simp [h2]
     by_cases h3 : q = 0
     ·have hb3 : (q != 0) = false := by simp [h3]
      have H2 := Lib.hid h2
      have H3 := Lib.hid h3
      clear h2 h3
      go_wp2_with (first | ((with_reducible refine ZBZ elI ?_ ?_ ?_ ?_ ?_ hc hlt ?_); (· rfl); (· exact fun _ => rfl); (· exact fun _ => rfl); (· rfl); (· rfl); intro _; simp only [Act.put, List.setIfInBounds_toArray, List.set_cons_succ, List.set_cons_zero]) | (go_at_call 134; refine (ZGN h hin.out HV.out).mono ?_; rintro e w1 ⟨rfl, rfl⟩))
      go_round
      case rel => exact ⟨k + 1, c[k], hlt, by go_num, rfl, by show _ = _; rw [<- hn.out, hst.out, if_neg (by rintro (h | ⟨_, h⟩); omega; exact h H3.out), if_pos H2.out]⟩
      case measure => simp [intOf]; omega
     ·have hb3 : (q != 0) = true := by simp [h3]
      have H2 := Lib.hid h2
      have H3 := Lib.hid h3
      clear h2 h3
      go_wp2_with (first | ((with_reducible refine ZBZ elI ?_ ?_ ?_ ?_ ?_ hc hlt ?_); (· rfl); (· exact fun _ => rfl); (· exact fun _ => rfl); (· rfl); (· rfl); intro _; simp only [Act.put, List.setIfInBounds_toArray, List.set_cons_succ, List.set_cons_zero]) | (go_at_call 134; refine (ZGN h hin.out HV.out).mono ?_; rintro e w1 ⟨rfl, rfl⟩))
      go_ret2
      have e : ZA0 vals 0 c = (0, false) := by rw [<- hn.out, hst.out, if_pos (.inr ⟨H2.out, H3.out⟩)]
      exact ⟨by rw [e]; rfl, rfl⟩
    ·have hb2 : (ZBg vals c[k] == 0) = false := by simp [h2]
     have H2 := Lib.hid h2
     clear h2
     go_wp2_with (first | ((with_reducible refine ZBZ elI ?_ ?_ ?_ ?_ ?_ hc hlt ?_); (· rfl); (· exact fun _ => rfl); (· exact fun _ => rfl); (· rfl); (· rfl); intro _; simp only [Act.put, List.setIfInBounds_toArray, List.set_cons_succ, List.set_cons_zero]) | (go_at_call 134; refine (ZGN h hin.out HV.out).mono ?_; rintro e w1 ⟨rfl, rfl⟩))
     go_round
     case rel => exact ⟨k + 1, q, hlt, by go_num, rfl, by show _ = _; rw [<- hn.out, hst.out, if_neg (by rintro (h | ⟨h, _⟩); omega; exact H2.out h), if_neg H2.out]⟩
     case measure => simp [intOf]; omega
  ·obtain rfl : k = c.length := by omega
   have e : ZA0 vals 0 c = (q, decide (q = 0)) := by rw [<- hn.out, List.drop_length, ZA0]
   have He := Lib.hid e
   clear e
   go_wp2
   go_ret2
   refine ⟨?_, rfl⟩
   rw [He.out]
   rfl

end
section
open Go.RowKit Go.Shelf

attribute [local go_sem] Oper.semAt_some

theorem elRR : ElT Tryz.prog 139 22 1 (.slice none 0 0) 24 false := ⟨Tryz.underlying139, by kernel_rfl, Tryz.isAgg22, rfl⟩

theorem ZEW {bad : Nat -> Prop} {W W' : World} {v : Value} {xs : List Value} (h : Arr RW (fun k => ¬ bad k) W v xs) (hk : KeepsBut bad W W') : Arr RW (fun k => ¬ bad k) W' v xs := by
 obtain ⟨a, cap, hv, h1, h2, h3⟩ := h
 exact ⟨a, cap, hv, h1, h2, fun k hlt => let ⟨u, b, off, r1, r2, r3, r4, r5⟩ := h3 k hlt; ⟨u, b, off, r1, r2, r3, r4, hk.cell (p := ⟨b, off + k, none⟩) r4 r5⟩⟩

set_option maxRecDepth 100000 in
set_option maxHeartbeats 4000000 in
theorem ZLh {α : Type} (f : α -> Value) (F : Fence) (n : Nat) (h65 : F.fn 110) (hro : F.round = none) (hn : 1 ≤ n) (l Bu Bv : Nat) (bad : Nat -> Prop) (xs ys : List α) (u v : Value) (J Jx : List α -> World -> Prop)
  (hY : ∀ pre x W, J pre W -> pre.length < (xs ++ ys).length -> YieldAt F (n - 1) Tryz.prog l #[f x] W fun e W' =>
   (e = .returned (.bool true) /\ J (pre ++ [x]) W' /\ KeepsBut bad W W') \/ (e = .returned (.bool false) /\ Jx (pre ++ [x]) W'))
  (W : World) (hJ : AbidesFrom W.heap.size J) (hbad : ∀ k, bad k -> k < W.heap.size) (hBu : W.cell? ⟨Bu, 0, none⟩ = some u) (hBv : W.cell? ⟨Bv, 0, none⟩ = some v)
  (hu : Arr RW (fun k => ¬ bad k) W u (xs.map f)) (hv : Arr RW (fun k => ¬ bad k) W v (ys.map f)) (h0 : J [] W) :
  CallsIn F n Tryz.prog 110 #[.func (.yield l) #[] #[], .pointer (some ⟨Bu, 0, none⟩), .pointer (some ⟨Bv, 0, none⟩)] W fun e W' => (∃ v, e = .returned v) /\
   ((∃ zs, zs = xs ++ ys /\ J zs W') \/ (∃ pre, pre <+: xs ++ ys /\ Jx pre W')) := by
 obtain ⟨au, cu, rfl⟩ := hu.len
 obtain ⟨av, cv, rfl⟩ := hv.len
 simp only [List.length_map] at hu hv hBu hBv
 have hB0 : Ext W (W.alloc (.cells #[.slice au xs.length cu, .slice av ys.length cv] 22)) := ZF _ _
 have hpair : Arr RW ZEZ (W.alloc (.cells #[.slice au xs.length cu, .slice av ys.length cv] 22)) (.slice (some ⟨W.heap.size, 0, none⟩) 2 2) [.slice au xs.length cu, .slice av ys.length cv] :=
  ⟨_, 2, rfl, Nat.le_refl _, by simp [maxLen], fun k hk => ⟨_, W.heap.size, 0, rfl, by
   have : k = 0 \/ k = 1 := by simp at hk; omega
   rcases this with rfl | rfl <;> rfl, rfl, trivial, by
   have : k = 0 \/ k = 1 := by simp at hk; omega
   rcases this with rfl | rfl <;> (unfold World.cell?; rw [World.alloc_heap_new]; rfl)⟩⟩
 have hJ1 : J [] (W.alloc (.cells #[.slice au xs.length cu, .slice av ys.length cv] 22)) := hJ [] W _ none h0 (World.grownBy_alloc W _ none) (fun r e => by cases e)
 have hpb : Arr RW (fun k => ¬ bad k) (W.alloc (.cells #[.slice au xs.length cu, .slice av ys.length cv] 22)) (.slice (some ⟨W.heap.size, 0, none⟩) 2 2) [.slice au xs.length cu, .slice av ys.length cv] := by
  obtain ⟨a, cap, h1, h2, h3, h4⟩ := hpair
  refine ⟨a, cap, h1, h2, h3, fun k hk => ?_⟩
  obtain ⟨w1, b, off, r1, r2, r3, r4, r5⟩ := h4 k hk
  cases h1
  cases r3
  exact ⟨w1, _, _, r1, r2, rfl, fun hc => absurd (hbad _ hc) (Nat.lt_irrefl _), r5⟩
 have hu0 : Arr RW (fun k => ¬ bad k) (W.alloc (.cells #[.slice au xs.length cu, .slice av ys.length cv] 22)) (.slice au xs.length cu) (xs.map f) := Good.ext (R := Arr RW) hu hB0
 have hv0 : Arr RW (fun k => ¬ bad k) (W.alloc (.cells #[.slice au xs.length cu, .slice av ys.length cv] 22)) (.slice av ys.length cv) (ys.map f) := Good.ext (R := Arr RW) hv hB0
 refine callsIn_of_wp Tryz.func110 rfl h65 ?_ hro
 simp only [Tryz.ntmps110, List.size_toArray, List.length_cons, List.length_nil, Nat.reduceAdd, Nat.reduceSub, Array.replicate_succ, Array.replicate_zero, List.push_toArray, List.append_toArray, List.nil_append, List.cons_append]
 clear hpair hu hv hB0 h0
 gi_wp2
 obtain ⟨W1, hW1⟩ : ∃ W1, W.alloc (.cells #[.slice au xs.length cu, .slice av ys.length cv] 22) = W1 := ⟨_, rfl⟩
 rw [hW1] at hJ1 hpb hu0 hv0 ⊢
 clear hBu hBv hbad hJ hW1
 obtain ⟨st, hst⟩ : ∃ st : Nat -> List α, st = fun k => if k = 0 then [] else if k = 1 then xs else xs ++ ys := ⟨_, rfl⟩
 gi_loopw [12] (fun i wr => ∃ k : Nat, k ≤ 2 /\ i = .int .i64 k /\ J (st k) wr /\ KeepsBut bad W1 wr) (fun i _ => 2 - (intOf i).toNat)
 case atStart => exact ⟨0, by omega, rfl, by rw [hst]; exact hJ1, KeepsBut.refl _ _⟩
 case round =>
  obtain ⟨k, hk, rfl, hJs, hkp⟩ := hrel
  by_cases hlt : k < 2
  ·obtain ⟨zs, s, hs1, hs2, hs3, hs4, hs5⟩ : ∃ (zs : List α) (s : Value), st (k + 1) = st k ++ zs /\ Arr RW (fun k => ¬ bad k) W1 s (zs.map f) /\ ([Value.slice au xs.length cu, .slice av ys.length cv])[k]? = some s /\ (st k).length + zs.length ≤ (xs ++ ys).length /\ st (k + 1) <+: xs ++ ys := by
    have : k = 0 \/ k = 1 := by omega
    rcases this with rfl | rfl
    ·exact ⟨xs, _, by rw [hst]; rfl, hu0, rfl, by rw [hst]; simp, by rw [hst]; exact List.prefix_append _ _⟩
    ·exact ⟨ys, _, by rw [hst]; rfl, hv0, rfl, by rw [hst]; simp, by rw [hst]; exact List.prefix_refl _⟩
   have hp2 := ZEW hpb hkp
   have hlt2 : k < ([Value.slice au xs.length cu, .slice av ys.length cv]).length := hlt
   have Hs1 := Lib.hid hs1
   have Hs3 := Lib.hid hs3
   have Hs4 := Lib.hid hs4
   have Hs5 := Lib.hid hs5
   clear hs1 hs3 hs4 hs5 hst hu0 hv0
   have hsl := hs2.len
   rw [List.length_map] at hsl
   have hd2 : decide ((k : Int) < 2) = true := decide_eq_true (by omega)
   have hzl := hs2.le
   rw [List.length_map] at hzl
   gi_wp2_with (first | (((with_reducible refine ZOS elRR ?_ ?_ ?_ ?_ ?_ hp2 hlt2 ?_); (· rfl); (· exact fun _ => rfl); (· exact fun _ => rfl); (· rfl); (· rfl); intro _ y hy h1y; simp only [Act.put, List.setIfInBounds_toArray, List.set_cons_succ, List.set_cons_zero]); (obtain rfl : y = s := by have e1 := List.getElem?_eq_getElem hlt2; rw [Hs3.out] at e1; exact (show y = _ from hy).trans (Option.some.inj e1).symm)) | ((with_reducible refine ZOT elR.und ?_ ?_ hsl ?_); (· rfl); (· rfl); simp only [Act.put, List.setIfInBounds_toArray, List.set_cons_succ, List.set_cons_zero]))
   gi_loopw [18] (fun i wr' => ∃ j : Nat, j ≤ zs.length /\ i = .int .i64 j /\ J (st k ++ zs.take j) wr' /\ KeepsBut bad W1 wr') (fun i _ => zs.length - (intOf i).toNat)
   case atStart => exact ⟨0, Nat.zero_le _, rfl, by simpa using hJs, hkp⟩
   case round =>
    obtain ⟨j, hj, rfl, hJj, hkj⟩ := hrel
    have hs6 := ZEW hs2 hkj
    by_cases hlj : j < zs.length
    ·have hlf : j < (zs.map f).length := by rw [List.length_map]; exact hlj
     have htk : Hid (st k ++ zs.take (j + 1) = (st k ++ zs.take j) ++ [zs[j]]) := by show _ = _; rw [List.append_assoc, List.take_succ_eq_append_getElem hlj]
     have hpre : Hid (st k ++ zs.take j ++ [zs[j]] <+: xs ++ ys) := by
      show _ <+: _
      rw [<- htk.out]
      refine List.IsPrefix.trans ?_ Hs5.out
      rw [Hs1.out]
      exact (List.prefix_append_right_inj _).2 (List.take_prefix _ _)
     obtain ⟨fn, tmps, assign, body, hy, hR⟩ := hY _ zs[j] _ hJj (by have := Hs4.out; simp only [List.length_append, List.length_take] at this ⊢; omega)
     gi_wp2_with (first | (((with_reducible refine ZOS elR ?_ ?_ ?_ ?_ ?_ hs6 hlf ?_); (· rfl); (· exact fun _ => rfl); (· exact fun _ => rfl); (· rfl); (· rfl); intro _ y2 hy2 h1y2; simp only [Act.put, List.setIfInBounds_toArray, List.set_cons_succ, List.set_cons_zero]); (obtain rfl : y2 = f zs[j] := (show y2 = _ from hy2).trans (by simp))))
     refine hR.mono ?_
     rintro e W3 (⟨rfl, hJ3, hk3⟩ | ⟨rfl, hJx3⟩)
     ·gi_wp2
      go_roundw
      case rel => exact ⟨j + 1, hlj, by go_num, by rw [htk.out]; exact hJ3, hkj.trans hk3⟩
      case measure => simp [intOf]; omega
     ·gi_wp2
      refine bodyPost_ret (results_none rfl _ _ _) rfl ?_
      exact ⟨⟨_, rfl⟩, .inr ⟨_, hpre.out, hJx3⟩⟩
    ·obtain rfl : j = zs.length := by omega
     have hdone : Hid (st (k + 1) = st k ++ zs.take zs.length) := by show _ = _; rw [Hs1.out, List.take_length]
     gi_wp2
     go_roundw
     case rel => exact ⟨k + 1, by omega, by go_num, by rw [hdone.out]; exact hJj, hkj⟩
     case measure => simp [intOf]; omega
  ·obtain rfl : k = 2 := by omega
   have h2 : st 2 = xs ++ ys := by rw [hst]; rfl
   rw [h2] at hJs
   clear h2 hst
   gi_wp2
   go_end0
   exact ⟨⟨_, rfl⟩, .inl ⟨_, rfl, hJs⟩⟩

theorem ZIo {α : Type} (f : α -> Value) (F : Fence) (n : Nat) (h65 : F.fn 110) (hro : F.round = none) (hn : 1 ≤ n) (Bu Bv : Nat) (bad : Nat -> Prop) (xs ys : List α) (u v : Value) (w : World)
  (hbad : ∀ k, bad k -> k < w.heap.size) (hBu : w.cell? ⟨Bu, 0, none⟩ = some u) (hBv : w.cell? ⟨Bv, 0, none⟩ = some v)
  (hu : Arr RW (fun k => ¬ bad k) w u (xs.map f)) (hv : Arr RW (fun k => ¬ bad k) w v (ys.map f)) :
  SeqStopsK F n Tryz.prog 110 #[.pointer (some ⟨Bu, 0, none⟩), .pointer (some ⟨Bv, 0, none⟩)] (fun x : α => #[f x]) (KeepsBut bad) (fun zs => zs = xs ++ ys) (fun pre => pre <+: xs ++ ys) (xs ++ ys).length w :=
 fun l J Jx W hW hJ _ hY h0 => by
  have e : Ext w W := hW
  exact ZLh f F n h65 hro hn l Bu Bv bad xs ys u v J Jx hY W hJ (fun k hk => Nat.lt_of_lt_of_le (hbad k hk) e.size) (e.cell hBu) (e.cell hBv) (Good.ext (R := Arr RW) hu e) (Good.ext (R := Arr RW) hv e) h0

theorem ZNz {P P' : Nat -> Prop} {u v : Value} {l p : List (List Int)} (w : World) (hu : Rows P w u l) (hv : Rows P' w v p) :
  Calls Tryz.prog 87 #[u, v] w fun e w' => e = .returned (.func (.func 110) #[] #[.pointer (some ⟨w.heap.size, 0, none⟩), .pointer (some ⟨w.heap.size + 1, 0, none⟩)]) /\ w' = (w.alloc (.cells #[u] 22)).alloc (.cells #[v] 22) := by
 obtain ⟨au, cu, rfl⟩ := hu.len
 obtain ⟨av, cv, rfl⟩ := hv.len
 go_enter Tryz.func87, Tryz.ntmps87
 go_wp2
 go_ret
 exact ⟨rfl, rfl⟩

end
end Go.Proofs.YtjmignmnlpamjaaGreat
