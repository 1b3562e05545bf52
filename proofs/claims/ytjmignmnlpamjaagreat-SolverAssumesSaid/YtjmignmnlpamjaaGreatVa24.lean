/- Part 24: walks by contracts, and plain laws. -/
import Derived.Test.YtjmignmnlpamjaaGreatVa19
import Derived.Test.YtjmignmnlpamjaaGreatVa23
set_option linter.unusedVariables false
set_option linter.unusedSimpArgs false
set_option linter.unusedSectionVars false
set_option maxRecDepth 100000
set_option maxHeartbeats 4000000
namespace Go.Proofs.YtjmignmnlpamjaaGreat
section
open Go.RowKit
section
variable {P : Program} {f : FuncId} {res : Dat}
theorem ZFi {α : Type} {R : Rel α} [Good R] {x : α} (h : ∀ (I : Nat -> Prop) (w : World) (u : Value), R I w u x -> Calls P f #[u] w fun e w' => ∃ r, e = .returned r /\ Ext w w' /\ res.rd (fun k => I k \/ w.heap.size ≤ k) w' r) : Fn P f [dS R x] res := ⟨fun I w vs hl hv => by
 match vs, hl with
 | [u], _ => exact h I w u (hv 0 _ rfl)⟩
theorem ZC5 {α β : Type} {R : Rel α} [Good R] {S : Rel β} [Good S] {x : α} {y : β} (h : ∀ (I : Nat -> Prop) (w : World) (u v : Value), R I w u x -> S I w v y -> Calls P f #[u, v] w fun e w' => ∃ r, e = .returned r /\ Ext w w' /\ res.rd (fun k => I k \/ w.heap.size ≤ k) w' r) : Fn P f [dS R x, dS S y] res := ⟨fun I w vs hl hv => by
 match vs, hl with
 | [u, v], _ => exact h I w u v (hv 0 _ rfl) (hv 1 _ rfl)⟩
theorem ZGi {d0 d1 : Dat} {I : Nat -> Prop} {w : World} {u0 u1 : Value} (h0 : d0.rd I w u0) (h1 : d1.rd I w u1) : (dT [d0, d1]).rd I w (.tuple #[u0, u1]) := ⟨[u0, u1], rfl, rfl, fun i d u hd hu => by
 match i, hd, hu with
 | 0, hd, hu => cases hd; cases hu; exact h0
 | 1, hd, hu => cases hd; cases hu; exact h1⟩
theorem ZN5 {d0 d1 d2 : Dat} {I : Nat -> Prop} {w : World} {u0 u1 u2 : Value} (h0 : d0.rd I w u0) (h1 : d1.rd I w u1) (h2 : d2.rd I w u2) : (dT [d0, d1, d2]).rd I w (.tuple #[u0, u1, u2]) := ⟨[u0, u1, u2], rfl, rfl, fun i d u hd hu => by
 match i, hd, hu with
 | 0, hd, hu => cases hd; cases hu; exact h0
 | 1, hd, hu => cases hd; cases hu; exact h1
 | 2, hd, hu => cases hd; cases hu; exact h2⟩
theorem ZGf {I : Nat -> Prop} {w : World} {v : Value} {V : Int} {l : List (List Int)} (h : Cls I w v (V, l)) : ∃ u, v = .agg #[.int .i64 V, u] /\ Rows I w u l := by
 obtain ⟨u, u', rfl, _, _, h1, h2⟩ := h
 cases (h1 : _ = _)
 exact ⟨u', rfl, h2⟩
end
theorem ZEn (l : List Int) (n : Int) : Fn Tryz.prog 84 [dS ZW l, dI n] (dB (ZCS l n)) := ZC5 fun I w u v hu hv => by
 cases (hv : _ = _)
 refine (ZKU n w hu).mono ?_
 rintro e w' ⟨rfl, rfl⟩
 exact ⟨_, rfl, Ext.refl _, rfl⟩
theorem ZCx (V : Int) (l : List (List Int)) : Fn Tryz.prog 29 [dS Cls (V, l)] (dI (ZQ V l)) := ZFi fun I w u hu => by
 obtain ⟨u', rfl, h⟩ := ZGf hu
 refine (ZFu V w h).mono ?_
 rintro e w' ⟨rfl, hx⟩
 exact ⟨_, rfl, hx, rfl⟩
theorem ZNI (V : Int) (l : List (List Int)) : Fn Tryz.prog 28 [dS Cls (V, l)] (dB (ZLr V l)) := ZFi fun I w u hu => by
 obtain ⟨u', rfl, h⟩ := ZGf hu
 refine (ZNH V w h).mono ?_
 rintro e w' ⟨rfl, hx⟩
 exact ⟨_, rfl, hx, rfl⟩
theorem ZHr (a b : List (List Int)) : Fn Tryz.prog 25 [dS Rows a, dS Rows b] (dB (ZA5 a b)) := ZC5 fun I w u v hu hv => by
 refine (ZK4 w hu hv).mono ?_
 rintro e w' ⟨rfl, n, rfl⟩
 exact ⟨_, rfl, (Ext.refl _).drewN n, rfl⟩
theorem ZGL (c l : List Int) : Fn Tryz.prog 39 [dS ZW c, dS ZW l] (dB (Zx c l)) := ZC5 fun I w u v hu hv => by
 refine (ZK8 w hu hv).mono ?_
 rintro e w' ⟨rfl, rfl⟩
 exact ⟨_, rfl, Ext.refl _, rfl⟩
theorem ZLB (c : List (List Int)) (l : List Int) (hsm : l.length + c.flatten.length ≤ 1000000) : Fn Tryz.prog 81 [dS Rows c, dS ZW l] (dT [dS ZW (ZAg c l).1, dA, dI (ZAg c l).2]) := ZC5 fun I w u v hu hv => by
 refine (ZLD w hu hv hsm).mono ?_
 rintro e w' ⟨r, rfl, ⟨x, y, ys, rfl, h1, h2⟩, hx⟩
 exact ⟨_, rfl, hx, ZN5 (Good.weak (Own.arr h1) fun k hk => .inr (hk.elim (fun h => h.elim) id)) trivial rfl⟩
theorem ZED (V : Int) (l : List (List Int)) (c : List Int) (hsm : ZQ V l = 0 -> ZR V none c = 0 -> ZFH l + c.length ≤ 500000) : Fn Tryz.prog 41 [dS Cls (V, l), dS ZW c] (dT [dB (Za V l c).1, dI (Za V l c).2]) := ZC5 fun I w u v hu hv => by
 obtain ⟨u', rfl, h⟩ := ZGf hu
 refine (ZJF V w h hv hsm).mono ?_
 rintro e w' ⟨rfl, hx⟩
 exact ⟨_, rfl, hx, ZGi rfl rfl⟩
theorem ZBT (V : Int) (l : List (List Int)) (hr : IRR l) : Fn Tryz.prog 42 [dS Cls (V, l)] (dI (ZQ V l)) := ZFi fun I w u hu => by
 obtain ⟨u', rfl, h⟩ := ZGf hu
 refine (ZEQ V w h hr).mono ?_
 rintro e w' ⟨rfl, hx⟩
 exact ⟨_, rfl, hx, rfl⟩
theorem ZEp (V : Int) (l : List (List Int)) (c : List Int) (hr : IRR l) : Fn Tryz.prog 40 [dS Cls (V, l), dS ZW c] (dT [dB (Za V l c).1, dI (Za V l c).2]) := ZC5 fun I w u v hu hv => by
 obtain ⟨u', rfl, h⟩ := ZGf hu
 refine (ZJA V w h hv hr).mono ?_
 rintro e w' ⟨rfl, hx⟩
 rw [ZG0]
 exact ⟨_, rfl, hx, ZGi rfl rfl⟩
end
section
open Go.RowKit
section
variable {xs ys : List Int} {p : Int -> Bool}
theorem ZFV (p : Int -> Bool) (xs : List Int) : (ZFU p xs = -1 /\ ∀ x ∈ xs, p x = false) \/ ∃ (k : Nat) (hk : k < xs.length), ZFU p xs = (k : Int) /\ p xs[k] = true /\ ∀ j (hj : j < k), p (xs[j]'(by omega)) = false := by
 unfold ZFU
 cases h : xs.findIdx? p with
 | none => exact .inl ⟨rfl, fun x hx => List.findIdx?_eq_none_iff.1 h x hx⟩
 | some n =>
  obtain ⟨h1, h2, h3⟩ := List.findIdx?_eq_some_iff_getElem.1 h
  exact .inr ⟨n, h1, rfl, h2, fun j hj => by have := h3 j hj; simpa using this⟩
theorem ZIL (p : Int -> Bool) (xs : List Int) : decide (0 ≤ ZFU p xs) = xs.any p := by
 rcases ZFV p xs with ⟨h1, h2⟩ | ⟨k, hk, h1, h2, h3⟩
 ·rw [h1, show xs.any p = false from List.any_eq_false.2 fun x hx => by simp [h2 x hx]]; rfl
 ·rw [h1, show xs.any p = true from List.any_eq_true.2 ⟨_, List.getElem_mem hk, h2⟩]; simp
theorem ZHv {q : Int -> Bool} {k : Nat} (hk : k ≤ xs.length) (h : ∀ j (hj : j < k), q (xs[j]'(by omega)) = true) : (xs.take k).filter q = xs.take k := by
 refine List.filter_eq_self.2 fun x hx => ?_
 obtain ⟨j, hj, rfl⟩ := List.mem_iff_getElem.1 hx
 rw [List.length_take] at hj
 rw [List.getElem_take]
 exact h j (by omega)
theorem ZLl {q : Int -> Bool} {i j : Nat} (hj : j < xs.length) (hi : i = ((xs.take j).filter q).length) (hij : i < j) (hy : ys = (xs.take j).filter q ++ xs.drop i) (hq : q xs[j] = true) : ys.set i xs[j] = (xs.take (j + 1)).filter q ++ xs.drop (i + 1) /\ i + 1 = ((xs.take (j + 1)).filter q).length := by
 rw [List.take_succ_eq_append_getElem hj, List.filter_append]
 have e1 : [xs[j]].filter q = [xs[j]] := by rw [List.filter_cons, if_pos hq, List.filter_nil]
 rw [e1]
 refine ⟨?_, by rw [List.length_append, <- hi]; rfl⟩
 rw [hy, List.set_append_right _ _ (by omega), <- hi, Nat.sub_self, List.drop_eq_getElem_cons (by omega : i < xs.length), List.set_cons_zero, List.append_assoc]
 rfl
theorem ZII {q : Int -> Bool} {j : Nat} (hj : j < xs.length) (hq : q xs[j] = false) : (xs.take (j + 1)).filter q = (xs.take j).filter q := by
 rw [List.take_succ_eq_append_getElem hj, List.filter_append, List.filter_cons, if_neg (by simp [hq]), List.filter_nil, List.append_nil]
theorem ZND {q : Int -> Bool} {i j : Nat} (hj : j < xs.length) (hi : i = ((xs.take j).filter q).length) (hij : i < j) (hy : ys = (xs.take j).filter q ++ xs.drop i) (hl : j < ys.length) : ys[j] = xs[j] := by
 subst hy
 rw [List.getElem_append_right (by omega), List.getElem_drop]
 congr 1
 omega
theorem ZNE {q : Int -> Bool} {i j : Nat} (hj : j ≤ xs.length) (hi : i = ((xs.take j).filter q).length) (hij : i < j) (hy : ys = (xs.take j).filter q ++ xs.drop i) : ys.length = xs.length := by
 rw [hy, List.length_append, <- hi, List.length_drop]
 omega
end
theorem ZKX (c : List Int) (x : Int) : Fn Tryz.prog 38 [dS ZW c, dI x] (dI (ZFU (fun y => decide (x = y)) c)) := by
 (refine Zb Tryz.func38 rfl rfl ?_; simp only [Tryz.ntmps38, List.length_cons, List.length_nil, Nat.reduceAdd, Nat.reduceSub, List.replicate_succ, List.replicate_zero, List.cons_append, List.nil_append])
 (repeat' (first | (apply WL.opN; exact yF; dsimp only [ZB, z0, z1]) | refine WL.nil ?_ | refine ZA fun Kx hK => ?_ | (refine hK _ _ ?_; clear hK) | refine WC.region ?_ | (apply WL.opN; (focus ((first | (apply SY.len; (exact oD); (exact nD); (exact uD)) | fail); all_goals infer_instance)); dsimp only [ZB, z0, z1]) | refine WC.block ?_))
 (first | refine ZCb (t := 0) rfl le_K fun hl0 => ?_ | refine ZCb (t := 0) rfl le_A fun hl0 => ?_); simp only [maxLen] at hl0
 (refine ZP (X := Nat) (fun k => [(8, dI (k : Int)), (4, dA), (5, dA), (9, dA), (10, dA), (11, dA), (12, dA), (13, dA), (14, dA), (15, dA), (16, dA), (17, dA), (18, dA)]) (fun k => []) (fun k => c.length - k) (fun k => k ≤ c.length /\ ∀ j (hj : j < k) (hjl : j < c.length), ¬ x = c[j]) 0 ?start ?frame0 ?objs0 ?round)
 case start => exact ⟨Nat.zero_le _, fun j hj => absurd hj (Nat.not_lt_zero j)⟩
 case frame0 => ((try dsimp only [ZX, z0, z1]); repeat (first | exact LeF.nil | refine ZG (k := ?_)))
 case objs0 => rfl
 case round =>
  rintro k ⟨h1, h2⟩
  dsimp only [ZX, z0, z1]
  by_cases hk : k < c.length
  ·have hlt : (k : Int) < (c.length : Int) := by omega
   by_cases he : x = c[k]
   ·((repeat' (first | (apply WL.opN; exact yF; dsimp only [ZB, z0, z1]) | refine WL.nil ?_ | refine ZA fun Kx hK => ?_ | (refine hK _ _ ?_; clear hK) | refine WC.region ?_ | (apply WL.opN; (focus ((first | (refine ZAy (R := RI) (_gR := inferInstance) (k := k) elI (OpD.t rfl) (OpD.t rfl) hk) | ((first | apply SY.move | apply SY.assign | apply SY.lss | apply SY.eql) <;> (exact oD)) | fail); all_goals infer_instance)); dsimp only [ZB, z0, z1]) | (apply ZC; (exact oD); all_goals (intro h; try exact xD)) | refine WC.skip ?_ | refine WC.ret ?_ | refine WC.block ?_ | refine ThenD.r ?_ | refine InBlockD.r ?_)); all_goals (first | ((repeat clear hK); (repeat clear Kx))))
    all_goals try (exfalso; first | contradiction | omega)
    (refine ⟨trivial, _, rfl, ?_⟩; refine ZBP ?_)
    rw [ZF0 hk (by simpa using he) fun j hj => by simpa using h2 j hj (by omega)]
   ·((repeat' (first | (apply WL.opN; exact yF; dsimp only [ZB, z0, z1]) | refine WL.nil ?_ | refine ZA fun Kx hK => ?_ | (refine hK _ _ ?_; clear hK) | refine WC.region ?_ | (apply WL.opN; (focus ((first | (refine ZAy (R := RI) (_gR := inferInstance) (k := k) elI (OpD.t rfl) (OpD.t rfl) hk) | ((first | apply SY.move | apply SY.assign | apply SY.lss | apply SY.eql) <;> (exact oD)) | ((first | apply SY.add) <;> first | exact oD | omega) | fail); all_goals infer_instance)); dsimp only [ZB, z0, z1]) | (apply ZC; (exact oD); all_goals (intro h; try exact xD)) | refine WC.skip ?_ | refine WC.block ?_ | refine ThenD.n ?_)); all_goals (first | ((repeat clear hK); (repeat clear Kx))))
    all_goals try (exfalso; first | contradiction | omega)
    (refine ⟨k + 1, ?_, by first | omega | (simp only; omega), rfl, ?_⟩; rotate_left; ((try dsimp only [ZX, z0, z1]); repeat (first | exact LeF.nil | refine ZG (k := ?_))); (try dsimp only))
    refine ⟨by omega, fun j hj hjl => ?_⟩
    rcases (by omega : j < k \/ j = k) with h3 | rfl
    ·exact h2 j h3 hjl
    ·exact he
  ·have hlt : ¬ (k : Int) < (c.length : Int) := by omega
   ((repeat' (first | (apply WL.opN; exact yF; dsimp only [ZB, z0, z1]) | refine WL.nil ?_ | refine ZA fun Kx hK => ?_ | (refine hK _ _ ?_; clear hK) | (refine Kont.skip ?_; clear hK) | refine WC.region ?_ | (apply WL.opN; (focus ((first | ((first | apply SY.move | apply SY.assign | apply SY.lss | apply SY.eql) <;> (exact oD)) | fail); all_goals infer_instance)); dsimp only [ZB, z0, z1]) | (apply ZC; (exact oD); all_goals (intro h; try exact xD)) | refine WC.ret ?_ | refine WC.exit ?_)); all_goals (first | ((repeat clear hK); (repeat clear Kx))))
   all_goals try (exfalso; first | contradiction | omega)
   (refine ⟨trivial, _, rfl, ?_⟩; refine ZBP ?_)
   rw [ZEg fun j hj => by simpa using h2 j (by omega) hj]
theorem ZCg (c : List Int) (x : Int) : Fn Tryz.prog 10 [dS ZW c, dI x] (dB (decide (x ∈ c))) := by
 (refine Zb Tryz.func10 rfl rfl ?_; simp only [Tryz.ntmps10, List.length_cons, List.length_nil, Nat.reduceAdd, Nat.reduceSub, List.replicate_succ, List.replicate_zero, List.cons_append, List.nil_append])
 ((repeat' (first | (apply WL.opN; exact yF; dsimp only [ZB, z0, z1]) | refine WL.nil ?_ | refine ZA fun Kx hK => ?_ | (refine hK _ _ ?_; clear hK) | refine WC.region ?_ | (apply WL.opN; (focus ((first | (apply SY.call (ZKX _ _) Tryz.call38; (exact aD)) | ((first | apply SY.move | apply SY.assign | apply SY.geq) <;> (exact oD)) | fail); all_goals infer_instance)); dsimp only [ZB, z0, z1]) | refine WC.ret ?_)); all_goals (first | ((repeat clear hK); (repeat clear Kx))))
 all_goals ((refine ⟨trivial, _, rfl, ?_⟩; refine FinD.b ?_); show decide (0 ≤ ZFU (fun y => decide (x = y)) c) = _; rw [ZIL, Bool.eq_iff_iff, List.any_eq_true, decide_eq_true_eq]; simp)
def ZKV {α : Type} (p : α -> Bool) : Nat -> List α -> Int
 | _, [] => -1
 | k, x :: l => if p x = true then (k : Int) else ZKV p (k + 1) l
theorem ZEo {α : Type} {p : α -> Bool} {l : List α} {k : Nat} (h : k < l.length) : ZKV p k (l.drop k) = if p l[k] = true then (k : Int) else ZKV p (k + 1) (l.drop (k + 1)) := by
 rw [List.drop_eq_getElem_cons h]; rfl
theorem ZF4 {α : Type} {p : α -> Bool} : ∀ (l : List α) (k : Nat), decide (0 ≤ ZKV p k l) = l.any p
 | [], k => by simp [ZKV]
 | x :: l, k => by
  unfold ZKV
  rw [List.any_cons]
  split
  ·rename_i h; rw [h]; simp
  ·rename_i h; rw [ZF4 l]; simp [h]
abbrev ZMY (p : List Int -> Bool) : Dat := ZN4 Tryz.prog (fun v : List Int => [dS ZW v]) (fun v => dB (p v))
theorem ZOB (l : List (List Int)) (p : List Int -> Bool) : Fn Tryz.prog 66 [dS Rows l, ZMY p] (dI (ZKV p 0 l)) := by
 (refine Zb Tryz.func66 rfl rfl ?_; simp only [Tryz.ntmps66, List.length_cons, List.length_nil, Nat.reduceAdd, Nat.reduceSub, List.replicate_succ, List.replicate_zero, List.cons_append, List.nil_append])
 (repeat' (first | (apply WL.opN; exact yF; dsimp only [ZB, z0, z1]) | refine WL.nil ?_ | refine ZA fun Kx hK => ?_ | (refine hK _ _ ?_; clear hK) | refine WC.region ?_ | (apply WL.opN; (focus ((first | (apply SY.len; (exact oD); (exact nD); (exact uD)) | fail); all_goals infer_instance)); dsimp only [ZB, z0, z1]) | refine WC.block ?_))
 (first | refine ZCb (t := 0) rfl le_K fun hl0 => ?_ | refine ZCb (t := 0) rfl le_A fun hl0 => ?_); simp only [maxLen] at hl0
 (refine ZP (X := Nat) (fun k => [(8, dI (k : Int)), (4, dA), (5, dA), (9, dA), (10, dA), (11, dA), (12, dA), (13, dA), (14, dA), (15, dA), (16, dA), (17, dA), (18, dA)]) (fun k => []) (fun k => l.length - k) (fun k => k ≤ l.length /\ ZKV p 0 l = ZKV p k (l.drop k)) 0 ?start ?frame0 ?objs0 ?round)
 case start => exact ⟨Nat.zero_le _, rfl⟩
 case frame0 => ((try dsimp only [ZX, z0, z1]); repeat (first | exact LeF.nil | refine ZG (k := ?_)))
 case objs0 => rfl
 case round =>
  rintro k ⟨h1, h2⟩
  dsimp only [ZX, z0, z1]
  ((repeat' (first | (apply WL.opN; exact yF; dsimp only [ZB, z0, z1]) | refine WL.nil ?_ | refine ZA fun Kx hK => ?_ | (refine hK _ _ ?_; clear hK) | (refine Kont.skip ?_; clear hK) | refine WC.region ?_ | (apply WL.opN; (focus ((first | (apply ZEX (x := l[k]); (exact OpD.t rfl); (exact aD)) | ((first | apply SY.move | apply SY.assign | apply SY.lss) <;> (exact oD)) | ((first | apply SY.add) <;> first | exact oD | omega) | (apply ZAy; (exact eD); (exact oD); (exact oD); exact kD) | fail); all_goals infer_instance)); dsimp only [ZB, z0, z1]) | (apply ZC; (exact oD); all_goals (intro h; try exact xD)) | (apply WC.cond; (exact oD); all_goals (intro h; try exact xD)) | refine WC.skip ?_ | refine WC.ret ?_ | refine WC.exit ?_ | refine WC.block ?_ | refine ThenD.n ?_ | refine ThenD.r ?_ | refine InBlockD.r ?_)); all_goals (first | ((repeat clear hK); (repeat clear Kx))))
  ·(refine ⟨trivial, _, rfl, ?_⟩; refine ZBP ?_)
   rw [h2, ZEo (by omega), if_pos h]
  ·(refine ⟨k + 1, ?_, by first | omega | (simp only; omega), rfl, ?_⟩; rotate_left; ((try dsimp only [ZX, z0, z1]); repeat (first | exact LeF.nil | refine ZG (k := ?_))); (try dsimp only))
   exact ⟨by omega, by rw [h2, ZEo (by omega), if_neg (by simp [h])]⟩
  ·(refine ⟨trivial, _, rfl, ?_⟩; refine ZBP ?_)
   rw [h2, List.drop_of_length_le (by omega)]; rfl
theorem ZN1 (l : List (List Int)) (p : List Int -> Bool) : Fn Tryz.prog 26 [dS Rows l, ZMY p] (dB (l.any p)) := by
 (refine Zb Tryz.func26 rfl rfl ?_; simp only [Tryz.ntmps26, List.length_cons, List.length_nil, Nat.reduceAdd, Nat.reduceSub, List.replicate_succ, List.replicate_zero, List.cons_append, List.nil_append])
 ((repeat' (first | (apply WL.opN; exact yF; dsimp only [ZB, z0, z1]) | refine WL.nil ?_ | refine ZA fun Kx hK => ?_ | (refine hK _ _ ?_; clear hK) | refine WC.region ?_ | (apply WL.opN; (focus ((first | (apply SY.call (ZOB _ _) Tryz.call66; (exact aD)) | ((first | apply SY.move | apply SY.assign | apply SY.geq) <;> (exact oD)) | fail); all_goals infer_instance)); dsimp only [ZB, z0, z1]) | refine WC.ret ?_)); all_goals (first | ((repeat clear hK); (repeat clear Kx))))
 all_goals ((refine ⟨trivial, _, rfl, ?_⟩; refine FinD.b ?_); exact ZF4 _ _)
end
end Go.Proofs.YtjmignmnlpamjaaGreat
