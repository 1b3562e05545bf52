/- Part 37: walks by contracts, and plain laws. -/
import Derived.Test.YtmcllakdbgnfiaaGreatDoorVg36
set_option linter.unusedVariables false
set_option linter.unusedSimpArgs false
set_option linter.unusedSectionVars false
set_option maxRecDepth 100000
set_option maxHeartbeats 4000000
namespace Go.Proofs.YtmcllakdbgnfiaaGreatDoor
section
open Go.RowKit

def exS : List Vx := [(0, 5), (1, 0)]
def exB : Cx := [[(0, 0), (1, 2)], [(0, 1), (1, 2)]]
theorem ex_part : partP 2 = ([[1, 2], [2, 1], [3]], 0) /\ (partP 3).2 = 0 /\ (partP 3).1.length = 13 /\ (partP 4).2 = 0 /\ (partP 4).1.length = 75 := by decide +kernel
theorem ex_fac : facetP exS [2, 1] = ([(0, 3), (1, 2)], 0) := by decide +kernel
theorem ex_sub : subP exS = (([[(0, 1), (1, 3)], [(0, 3), (1, 2)], [(0, 3), (1, 3)]], [(0, 1), (0, 3), (1, 2), (1, 3)], [[(0, 5)], exS, [(1, 0)], exS]), 0) := by decide +kernel
theorem itoa1 (n : Nat) (h : n < 10) : Lib.itoa (n : Int) = [UInt8.ofNat (48 + n)] := by rw [Lib.itoa_nonneg, Lib.decDigits_one h]
theorem ex_t1 : txS [(0, 5)] = [48, 47, 53, 32] := by
 show (((Lib.itoa ((0 : Nat) : Int) ++ [47]) ++ Lib.itoa ((5 : Nat) : Int)) ++ [32]) ++ [] = _
 rw [itoa1 0 (by decide), itoa1 5 (by decide)]
 rfl
theorem ex_t2 : txS [(1, 0)] = [49, 47, 48, 32] := by
 show (((Lib.itoa ((1 : Nat) : Int) ++ [47]) ++ Lib.itoa ((0 : Nat) : Int)) ++ [32]) ++ [] = _
 rw [itoa1 0 (by decide), itoa1 1 (by decide)]
 rfl
theorem ex_t3 : txS exS = [48, 47, 53, 32, 49, 47, 48, 32] := by
 have h : txS exS = txS [(0, 5)] ++ txS [(1, 0)] := by
  unfold txS exS
  simp
 rw [h, ex_t1, ex_t2]
 rfl
theorem ex_faces : ZCN [exS] = [[(0, 5)], [(1, 0)], exS] := by decide +kernel
theorem ex_num : ZBZ [exS] = [([48, 47, 53, 32], 0), ([49, 47, 48, 32], 1), ([48, 47, 53, 32, 49, 47, 48, 32], 2)] := by
 unfold ZBZ
 rw [ex_faces]
 simp only [List.foldl_cons, List.foldl_nil]
 unfold numS
 rw [ex_t1, ex_t2, ex_t3]
 decide +kernel
theorem ex_ords : ordS 3 = [[1, 2], [2, 1]] := by decide +kernel
theorem ex_at : atB exS (orB [1, 2] 1) = [(0, 5)] /\ atB exS (orB [1, 2] 2) = exS /\ atB exS (orB [2, 1] 1) = [(1, 0)] /\ atB exS (orB [2, 1] 2) = exS := by decide +kernel
theorem ex_bx : barX (ZBZ [exS]) exS [1, 2] 0 = (0, 0) /\ barX (ZBZ [exS]) exS [1, 2] 1 = (1, 2) /\ barX (ZBZ [exS]) exS [2, 1] 0 = (0, 1) /\ barX (ZBZ [exS]) exS [2, 1] 1 = (1, 2) := by
 obtain ⟨a1, a2, a3, a4⟩ := ex_at
 unfold barX numF
 rw [a1, a2, a3, a4, ex_t1, ex_t2, ex_t3, ex_num]
 decide +kernel
theorem ex_bar : barF (ZBZ [exS]) [exS] = exB := by
 obtain ⟨b1, b2, b3, b4⟩ := ex_bx
 unfold barF
 rw [List.flatMap_cons, List.flatMap_nil, List.append_nil, show 2 ^ exS.length - 1 = 3 from rfl, ex_ords]
 simp only [List.map_cons, List.map_nil]
 unfold barV
 show [[barX _ exS [1, 2] 0, barX _ exS [1, 2] 1], [barX _ exS [2, 1] 0, barX _ exS [2, 1] 1]] = exB
 rw [b1, b2, b3, b4]
 rfl
def exK (v : Vx) : List Vx := if v = (0, 0) then [(0, 5)] else if v = (0, 1) then [(1, 0)] else if v = (1, 2) then exS else []
theorem exK_len (v : Vx) : (exK v).length <= 1000 := by
 unfold exK
 split
 ·simp
 ·split
  ·simp
  ·split
   ·unfold exS; simp
   ·simp
theorem baryX_p : CallC Tryz.prog 12 ([dS Cpx [exS]] ++ ([] : List Value).map dX) [] (fun d hp2 => ∃ B : Sb, d = dT [dS SubR (exB, B.2.1, B.2.2), dI 0] /\ hp2 = []) := by
 have hb := ex_bar
 refine (bary29_p [exS] exB exK (by decide) (by decide +kernel) (by decide +kernel) ?_ (by decide +kernel) (by decide +kernel) (by rw [hb]; decide) (by rw [hb]; decide) ?_ exK_len (by rw [hb]; decide +kernel)).monoK fun d hp2 ⟨h1, h2⟩ => ⟨([], _, _), h1, h2⟩
 ·intro s hs v hv
  cases List.mem_singleton.1 hs
  unfold exS at hv
  simp only [List.mem_cons, List.not_mem_nil, or_false] at hv
  rcases hv with rfl | rfl <;> decide
 ·intro s hs bl hbl k hk
  cases List.mem_singleton.1 hs
  rw [show 2 ^ exS.length - 1 = 3 from rfl, ex_ords] at hbl
  obtain ⟨b1, b2, b3, b4⟩ := ex_bx
  obtain ⟨a1, a2, a3, a4⟩ := ex_at
  have hok : ∀ a b : Fin 8, okV (((a.val : Nat) : Int), ((b.val : Nat) : Int)) := fun a b => by
   unfold okV is64
   have := a.2; have := b.2
   simp only
   omega
  simp only [List.mem_cons, List.not_mem_nil, or_false] at hbl
  rcases hbl with rfl | rfl
  ·have : k = 0 \/ k = 1 := by simp at hk; omega
   rcases this with rfl | rfl
   ·rw [b1, a1]; exact ⟨hok 0 0, by decide⟩
   ·rw [b2, a2]; exact ⟨hok 1 2, by decide⟩
  ·have : k = 0 \/ k = 1 := by simp at hk; omega
   rcases this with rfl | rfl
   ·rw [b3, a3]; exact ⟨hok 0 1, by decide⟩
   ·rw [b4, a4]; exact ⟨hok 1 2, by decide⟩
theorem v29_p (c n : Int) : Fn Tryz.prog 27 [dI c, dI n] (dS RV (c, n)) := by
 refine Fn.introC1 tyV Tryz.func27 rfl rfl ?_
 simp only [Tryz.ntmps27, List.length_cons, List.length_nil, Nat.reduceAdd, Nat.reduceSub, List.replicate_succ, List.replicate_zero, List.cons_append, List.nil_append]
 ((repeat' (first | (apply WL.opN; exact yF; dsimp only [ZB, z0, z1]) | refine WL.nil ?_ | refine ZA fun Kx hK => ?_ | (refine hK _ _ ?_; clear hK) | refine WC.region ?_ | (apply WL.alloc; (first | exact tzV | exact tzC); (first | exact ZW rfl | exact Zs | exact Zi rfl); (intro _; dsimp only [ZB, z0, z1])) | (apply WL.storeF; (exact tD); rfl; (exact oD); (exact hD); dsimp only [ZB, z0, z1]) | (apply WL.opN; (focus ((first | (first | (apply SY.mkV0 vxT <;> (exact oD)) | (apply SY.mkV1 vxT <;> (exact oD)) | (apply SY.mkV vxT <;> (exact oD))) | fail); all_goals infer_instance)); dsimp only [ZB, z0, z1]) | refine WC.ret ?_)); all_goals (first | ((repeat clear hK); (repeat clear Kx))))
 (refine ⟨trivial, _, rfl, ?_⟩; exact fD)
theorem sameI_c (l : List Int) : Fn Tryz.prog 71 [dS ZCE l, dS ZCE l] (dB true) := by
 (refine ZE Tryz.func71 rfl rfl ?_; simp only [Tryz.ntmps71, List.length_cons, List.length_nil, Nat.reduceAdd, Nat.reduceSub, List.replicate_succ, List.replicate_zero, List.cons_append, List.nil_append])
 (first | refine ZR (t := 0) rfl le_K fun hl0 => ?_ | refine ZR (t := 0) rfl le_A fun hl0 => ?_ | refine ZR (t := 0) rfl le_C fun hl0 => ?_); simp only [maxLen] at hl0
 (repeat' (first | ((first | apply WL.opN | apply WD.opN); exact yF; dsimp only [ZB, z0, z1]) | refine WL.nil ?_ | refine ZA fun Kx hK => ?_ | (refine hK _ _ ?_; clear hK) | refine WC.region ?_ | ((first | apply WL.opN | apply WD.opN); (focus ((first | ((first | apply SY.move | apply SY.assign | apply SY.lss | apply SY.neq) <;> (exact oD)) | (apply SY.len; (exact oD); (exact nD); (exact uD)) | fail); all_goals infer_instance)); dsimp only [ZB, z0, z1]) | (apply ZH; (exact oD); all_goals (intro h; try exact xD)) | refine WC.skip ?_ | refine WC.block ?_))
 (refine WC.loopU (X := Nat) (fun k => [(5, dI (k : Int)), (4, dA), (11, dA), (12, dA), (13, dA), (14, dA), (15, dA), (16, dA), (17, dA), (18, dA), (19, dA), (20, dA), (21, dA), (22, dA), (23, dA), (24, dA), (25, dA)]) (fun k => []) (fun k => l.length - k) (fun k => k <= l.length) 0 ?start ?frame0 ?objs0 ?round)
 case start => exact Nat.zero_le _
 case frame0 => ((try dsimp only [ZL, z0, z1]); repeat (first | exact LeF.nil | refine ZD (k := ?_)))
 case objs0 => rfl
 case round =>
  rintro k h1
  dsimp only [ZL, z0, z1]
  by_cases hk : k < l.length
  ·((repeat' (first | ((first | apply WL.opN | apply WD.opN); exact yF; dsimp only [ZB, z0, z1]) | refine WL.nil ?_ | refine WD.nil ?_ | refine ZA fun Kx hK => ?_ | (refine hK _ _ ?_; clear hK) | refine WC.region ?_ | (apply WC.draw; kernel_rfl; kernel_rfl) | ((first | apply WL.opN | apply WD.opN); (focus ((first | ((first | apply SY.move | apply SY.assign | apply SY.lss | apply SY.neq) <;> (exact oD)) | ((first | apply SY.add) <;> first | exact oD | omega) | (apply SY.len; (exact oD); (exact nD); (exact uD)) | (apply SY.ix; (exact eD); (exact oD); (exact oD); exact kD) | fail); all_goals infer_instance)); dsimp only [ZB, z0, z1]) | (apply ZC; (exact oD); all_goals (intro h; try exact xD)) | (apply ZH; (exact oD); all_goals (intro h; try exact xD)) | refine WC.skip ?_ | refine WC.block ?_ | refine ThenD.n ?_)); all_goals (first | ((repeat clear hK); (repeat clear Kx))))
   all_goals first
    | (exfalso; omega)
    | ((refine ⟨k + 1, ?_, by first | omega | (simp only; omega), rfl, ?_⟩; rotate_left; ((try dsimp only [ZL, z0, z1]); repeat (first | exact LeF.nil | refine ZD (k := ?_))); (try dsimp only)); omega)
  ·((repeat' (first | ((first | apply WL.opN | apply WD.opN); exact yF; dsimp only [ZB, z0, z1]) | refine WL.nil ?_ | refine ZA fun Kx hK => ?_ | (refine hK _ _ ?_; clear hK) | (refine Kont.skip ?_; clear hK) | refine WC.region ?_ | ((first | apply WL.opN | apply WD.opN); (focus ((first | ((first | apply SY.move | apply SY.assign | apply SY.lss | apply SY.neq) <;> (exact oD)) | (apply SY.len; (exact oD); (exact nD); (exact uD)) | fail); all_goals infer_instance)); dsimp only [ZB, z0, z1]) | (apply ZC; (exact oD); all_goals (intro h; try exact xD)) | refine WC.ret ?_ | refine WC.exit ?_)); all_goals (first | ((repeat clear hK); (repeat clear Kx))))
   all_goals first
    | (exfalso; omega)
    | (refine ⟨trivial, _, rfl, ?_⟩; exact fD)
theorem sameB_c (l : List (List Int)) : Fn Tryz.prog 31 [dS Rows l, dS Rows l] (dB true) := by
 (refine ZE Tryz.func31 rfl rfl ?_; simp only [Tryz.ntmps31, List.length_cons, List.length_nil, Nat.reduceAdd, Nat.reduceSub, List.replicate_succ, List.replicate_zero, List.cons_append, List.nil_append])
 (first | refine ZR (t := 0) rfl le_K fun hl0 => ?_ | refine ZR (t := 0) rfl le_A fun hl0 => ?_ | refine ZR (t := 0) rfl le_C fun hl0 => ?_); simp only [maxLen] at hl0
 (repeat' (first | ((first | apply WL.opN | apply WD.opN); exact yF; dsimp only [ZB, z0, z1]) | refine WL.nil ?_ | refine ZA fun Kx hK => ?_ | (refine hK _ _ ?_; clear hK) | refine WC.region ?_ | ((first | apply WL.opN | apply WD.opN); (focus ((first | (apply SY.len; exact OpD.t rfl; exact len_A; exact elRo.unt) | ((first | apply SY.move | apply SY.assign | apply SY.lss | apply SY.neq | apply SY.not) <;> (exact oD)) | fail); all_goals infer_instance)); dsimp only [ZB, z0, z1]) | (apply ZH; (exact oD); all_goals (intro h; try exact xD)) | refine WC.skip ?_ | refine WC.block ?_))
 all_goals try (exfalso; omega)
 (refine WC.loopU (X := Nat) (fun k => [(5, dI (k : Int)), (4, dA), (11, dA), (12, dA), (13, dA), (14, dA), (15, dA), (16, dA), (17, dA), (18, dA), (19, dA), (20, dA), (21, dA), (22, dA), (23, dA), (24, dA), (25, dA), (26, dA)]) (fun k => []) (fun k => l.length - k) (fun k => k <= l.length) 0 ?start ?frame0 ?objs0 ?round)
 case start => exact Nat.zero_le _
 case frame0 => ((try dsimp only [ZL, z0, z1]); repeat (first | exact LeF.nil | refine ZD (k := ?_)))
 case objs0 => rfl
 case round =>
  rintro k h1
  dsimp only [ZL, z0, z1]
  by_cases hk : k < l.length
  ·((repeat' (first | ((first | apply WL.opN | apply WD.opN); exact yF; dsimp only [ZB, z0, z1]) | refine WL.nil ?_ | refine WD.nil ?_ | refine ZA fun Kx hK => ?_ | (refine hK _ _ ?_; clear hK) | refine WC.region ?_ | (apply WC.draw; kernel_rfl; kernel_rfl) | ((first | apply WL.opN | apply WD.opN); (focus ((first | (apply SY.len; exact OpD.t rfl; exact len_A; exact elRo.unt) | (refine SY.ix (R := ZCE) (_gR := inferInstance) elRo (OpD.t rfl) (OpD.t rfl) hk) | (apply SY.load; exact tyIn; exact OpD.t rfl) | (apply SY.call (sameI_c l[k]) Tryz.call71; (exact aD)) | (exact ZBS (OpD.t rfl)) | ((first | apply SY.move | apply SY.assign | apply SY.lss | apply SY.neq | apply SY.not) <;> (exact oD)) | ((first | apply SY.add) <;> first | exact oD | omega) | fail); all_goals infer_instance)); dsimp only [ZB, z0, z1]) | (apply Zr; (exact oD); (with_reducible rfl)) | (apply ZC; (exact oD); all_goals (intro h; try exact xD)) | refine WC.skip ?_ | refine WC.block ?_ | refine ThenD.n ?_)); all_goals (first | ((repeat clear hK); (repeat clear Kx))))
   all_goals first
    | (exfalso; omega)
    | ((refine ⟨k + 1, ?_, by first | omega | (simp only; omega), rfl, ?_⟩; rotate_left; ((try dsimp only [ZL, z0, z1]); repeat (first | exact LeF.nil | refine ZD (k := ?_))); (try dsimp only)); omega)
  ·((repeat' (first | ((first | apply WL.opN | apply WD.opN); exact yF; dsimp only [ZB, z0, z1]) | refine WL.nil ?_ | refine ZA fun Kx hK => ?_ | (refine hK _ _ ?_; clear hK) | (refine Kont.skip ?_; clear hK) | refine WC.region ?_ | ((first | apply WL.opN | apply WD.opN); (focus ((first | (apply SY.len; exact OpD.t rfl; exact len_A; exact elRo.unt) | ((first | apply SY.move | apply SY.assign | apply SY.lss | apply SY.neq | apply SY.not) <;> (exact oD)) | fail); all_goals infer_instance)); dsimp only [ZB, z0, z1]) | (apply ZC; (exact oD); all_goals (intro h; try exact xD)) | refine WC.ret ?_ | refine WC.exit ?_)); all_goals (first | ((repeat clear hK); (repeat clear Kx))))
   all_goals first
    | (exfalso; omega)
    | (refine ⟨trivial, _, rfl, ?_⟩; exact fD)
end
section
open Go.RowKit
section
variable {P : Program} {ops : Array Oper} {hp : List HObj} {fr : List Dat} {dst : Option Tmp} {ty : TypeId} {ps : String} {af : Array Edge} {g : Option (Nat × Bool)} {T T2 : TypeId}
theorem SY.neqF {p q : Int} {x y : Operand} (h : p = q) (hx : OpD fr x (dI p)) (hy : OpD fr y (dI q)) : SY P ops hp { dst := dst, op := .binOp .neq T x y T2, type := ty, pos := ps, after := af, guard := g } fr (dB false) := by
 have := SY.neq (P := P) (ops := ops) (hp := hp) (dst := dst) (ty := ty) (ps := ps) (af := af) (g := g) (T := T) (T2 := T2) hx hy
 rwa [decide_eq_true h] at this
theorem SY.eqlT {p q : Int} {x y : Operand} (h : p = q) (hx : OpD fr x (dI p)) (hy : OpD fr y (dI q)) : SY P ops hp { dst := dst, op := .binOp .eql T x y T2, type := ty, pos := ps, after := af, guard := g } fr (dB true) := by
 have := SY.eql (P := P) (ops := ops) (hp := hp) (dst := dst) (ty := ty) (ps := ps) (af := af) (g := g) (T := T) (T2 := T2) hx hy
 rwa [decide_eq_true h] at this
theorem SY.add00 {x y : Operand} (hx : OpD fr x (dI 0)) (hy : OpD fr y (dI 0)) : SY P ops hp { dst := dst, op := .binOp .add T x y T2, type := ty, pos := ps, after := af, guard := g } fr (dI 0) := SY.add hx hy (by omega)
end

set_option maxHeartbeats 16000000 in
theorem awake29_p : Fn Tryz.prog 8 [] (dB true) := by
 obtain ⟨x1, x2, x3, x4, x5⟩ := ex_part
 have c1 := partitions_p 2
 rw [x1] at c1
 have c2 := partitions_p 3
 rw [x2] at c2
 have c3 := partitions_p 4
 rw [x4] at c3
 generalize (partP 3).1 = l3 at *
 generalize (partP 4).1 = l4 at *
 have c4 : Fn Tryz.prog 29 [dS ZF [(0, 5), (1, 0)], dS ZCE [2, 1]] (dT [dS ZF [(0, 3), (1, 2)], dI 0]) := by
  have := facetP_p exS [2, 1]
  rw [ex_fac] at this
  exact this
 have c5 : Fn Tryz.prog 30 [dS ZF [(0, 5), (1, 0)]] (dT [dS SubR ([[(0, 1), (1, 3)], [(0, 3), (1, 2)], [(0, 3), (1, 3)]], [(0, 1), (0, 3), (1, 2), (1, 3)], [[(0, 5)], [(0, 5), (1, 0)], [(1, 0)], [(0, 5), (1, 0)]]), dI 0]) := by
  have := simplex29_p exS
  rw [ex_sub] at this
  exact this
 have c6 : CallC Tryz.prog 12 ([dS Cpx [[(0, 5), (1, 0)]]] ++ ([] : List Value).map dX) [] (fun d hp2 => ∃ B : Sb, d = dT [dS SubR ([[(0, 0), (1, 2)], [(0, 1), (1, 2)]], B.2.1, B.2.2), dI 0] /\ hp2 = []) := baryX_p
 have s : ∀ l : Cx, Fn Tryz.prog 33 [dS Zq l, dS Zq l] (dB true) := fun l => by
  have := sameAll_c l l
  rwa [decide_eq_true rfl] at this
 have s1 : ∀ l : List Vx, Fn Tryz.prog 32 [dS ZF l, dS ZF l] (dB true) := fun l => by
  have := same_c l l
  rwa [decide_eq_true (cmpL_eq.2 rfl)] at this
 refine ZE Tryz.func8 rfl rfl ?_
 show WC _ _ _ (List.replicate 137 (dX undef)) []
 simp only [List.replicate_succ, List.replicate_zero]
 ((repeat' (first | ((first | apply WL.opN | apply WD.opN); exact yF; dsimp only [ZB, z0, z1]) | refine WL.nil ?_ | refine WD.nil ?_ | refine ZA fun Kx hK => ?_ | (refine hK _ _ ?_; clear hK) | refine WC.region ?_ | (apply WC.draw; kernel_rfl; kernel_rfl) |  (refine WL.allocS (zs := [.slice none 0 0, .slice none 0 0, .slice none 0 0]) tzSb (by decide) (by simp [Value.oneCell']) fun b6 => ?_; dsimp only [ZB, z0, z1, List.map_cons, List.map_nil]) |  (refine WL.storeW ZB8 (OpD.t rfl) (OpD.tle rfl ZBz) rfl rfl ?_; dsimp only [ZB, z0, z1]) |  (refine WL.callC (hp1 := []) (caps := []) c6 Tryz.call12 OpD.f (by (exact aD)) ?_; rintro d' hp2 ⟨B, rfl, rfl⟩; dsimp only [ZB, z0, z1, List.cons_append, List.nil_append]) | ((first | apply ZJ | apply WD.op); (focus (first | exact wN | (apply ZG; (exact wY); ((first | (apply SY.call (v29_p _ _) Tryz.call27; (exact aD)) | (apply SY.call c1 Tryz.call28; exact ArgsD.cons OpD.i ArgsD.nil) | (apply SY.call c2 Tryz.call28; exact ArgsD.cons OpD.i ArgsD.nil) | (apply SY.call c3 Tryz.call28; exact ArgsD.cons OpD.i ArgsD.nil) | (apply SY.call (c4) Tryz.call29; exact ArgsD.cons (OpD.t rfl) (ArgsD.cons (OpD.t rfl) (ArgsD.nil))) | (apply SY.call (c5) Tryz.call30; exact ArgsD.cons (OpD.t rfl) (ArgsD.nil)) | (apply SY.call (sameB_c _) Tryz.call31; (exact aD)) | (apply SY.call (s1 _) Tryz.call32; (exact aD)) | (apply SY.call (s _) Tryz.call33; (exact aD)) | (refine Z7 ZBY (OpD.t rfl) (by decide)) | (apply SY.fldX cpxT; exact OpD.t rfl) | (refine Zp tySS (OpD.t rfl) (.head _) rfl) | (refine Zp tySi (OpD.t rfl) (.head _) rfl) | (apply SY.len; exact OpD.t rfl; exact len_A; exact elRo.unt) | (exact SY.build1' (R := ZCE) (_gR := inferInstance) (els := [[1, 2], [2, 1], [3]]) elRo (ZAU (OpD.t rfl) (ZAU (OpD.t rfl) (ZAU (OpD.t rfl) ZAj))) rfl rfl (fun _ => ZBT) (Nat.le_of_ble_eq_true rfl)) | (exact SY.add00 (OpD.t rfl) (OpD.t rfl)) | (exact SY.neqF (p := 0) (q := 0) rfl (OpD.t rfl) OpD.i) | (exact SY.eqlT (p := 0) (q := 0) rfl (OpD.t rfl) OpD.i) | (exact SY.eqlT (p := ((l3.length : Nat) : Int)) (q := 13) (x3 ▸ rfl) (OpD.t rfl) OpD.i) | (exact SY.eqlT (p := ((l4.length : Nat) : Int)) (q := 75) (x5 ▸ rfl) (OpD.t rfl) OpD.i) | (exact ZBS (OpD.t rfl)) | ((first | apply SY.move | apply SY.assign | apply SY.eql | apply SY.neq | apply SY.not) <;> (exact oD)) | (apply SY.mkC cpxT; exact OpD.t rfl) | (apply SY.buildE; (exact eD); ((try simp only [List.map_cons, List.map_nil]); (repeat (first | exact ZAj | (apply ZAU; (first | exact OpD.t rfl | exact OpD.i | exact OpD.b | exact OpD.tle rfl (by first | exact ZN | exact ZK (by decide)) | exact ⟨ZN⟩ | exact ⟨ZK (by decide)⟩))))); rfl; rfl; decide; (intro _; exact ZA8); (exact (by simp))) | (apply SY.build1'; (exact eD); ((try simp only [List.map_cons, List.map_nil]); (repeat (first | exact ZAj | (apply ZAU; (first | exact OpD.t rfl | exact OpD.i | exact OpD.b | exact OpD.tle rfl (by first | exact ZN | exact ZK (by decide)) | exact ⟨ZN⟩ | exact ⟨ZK (by decide)⟩))))); rfl; rfl; (intro _; first | exact ZAs | exact ZBt | exact ZBT | exact ZB5); (exact (by simp))) | (apply ZAJ; (exact oD); (with_reducible rfl); (exact oD)) | (apply Z6; (exact oD); (with_reducible rfl); (exact oD)) | (apply SY.extract; (exact oD); rfl) | fail); all_goals infer_instance)))); dsimp only [ZB, z0, z1]) | (apply Zr; (exact oD); (with_reducible rfl)) | refine WC.skip ?_ | refine WC.ret ?_)); all_goals (first | ((repeat clear hK); (repeat clear Kx))))
 all_goals try (exfalso; first | contradiction | omega)
 (refine ⟨trivial, _, rfl, ?_⟩; exact fD)
end
section
section
variable {s : List Vx}
def GoodS (s : List Vx) : Prop := Zn s = 0 /\ Zy s = true /\ s.length <= 4
theorem GoodS.len (h : GoodS s) : 1 <= s.length := by have := ZM.1 h.1; omega
end
end
section
open Go.RowKit
section
variable {P : Program} {ops : Array Oper} {hp : List HObj} {fr : List Dat} {d e : Dat} {dst : Option Tmp} {ty : TypeId} {ps : String} {af : Array Edge} {g : Option (Nat × Bool)} {T T1 T2 : TypeId} {x y : Operand}
theorem ZAz {l : Cx} (T' : TyI P T1 1 true) (hx : OpD fr x (dP 1 false (dS Zq l))) : SY P ops hp { dst := dst, op := .load T1 x, type := ty, pos := ps, after := af, guard := g } fr (dS Cpx l) := SY.val fun {I w a} ho => by
 obtain ⟨b, off, u, h1, ⟨hb, cs, k1, k0, k2, k3, k4⟩, hu⟩ := hx.get (by simp [Op.operands]) ho
 simp only [Bool.false_eq_true, if_false] at k4
 subst k4
 have hc : Cells I w b off 1 true (.agg #[u]) := ⟨hb, [u], rfl, Nat.one_pos, k2, k3, rfl⟩
 refine ⟨.agg #[u], ?_, u, rfl, k2 u (by simp), hu⟩
 unfold execOp
 simp only [h1, Sem.run_bind, ZAY T' hc, Result.andThen_ok, Sem.run_pure]
theorem SY.fldD {n : Nat} (S : StrT P T n) (hn : 0 < n) (hx : OpD fr x (dP 1 false d)) : SY P ops hp { dst := dst, op := .fieldAddr T x 0, type := ty, pos := ps, after := af, guard := g } fr (dP 1 false d) := SY.val fun {I w a} ho => by
 obtain ⟨b, off, u, h1, h2, h3⟩ := hx.get (by simp [Op.operands]) ho
 refine ⟨.pointer (some ⟨b, off, none⟩), ?_, b, off, u, rfl, h2, h3⟩
 unfold execOp
 simp only [h1, Sem.run_bind, S.fld b off 0 w hn, Result.andThen_ok, Sem.run_pure]
 rfl
theorem SY.ixE {i : Operand} {t e : TypeId} {z : Value} {bytes n : Nat} {ag : Bool} (E : ElT P t e n z bytes ag) {α : Type} {R : Rel α} {_gR : Good R} {xs : List α} {k : Nat} {v : α} (hk : k < xs.length) (hv : xs[k] = v) (hx : OpD fr x (dS (ArrK n R) xs)) (hi : OpD fr i (dI (k : Int))) : SY P ops hp { dst := dst, op := .indexAddr t x i, type := ty, pos := ps, after := af, guard := g } fr (dP n true (dS R v)) := hv ▸ ZA3 E hx hi hk
end

theorem strCx : StrT Tryz.prog 24 1 := ⟨fun b off i w hi => by
 have : i = 0 := by omega
 subst this
 go_simp⟩
end
section
def pos29 (V : List Vx) (v : Vx) : Int := idxG (fun y => decide (v = y)) 0 V
theorem idx_spec {α : Type} {p : α -> Bool} : ∀ (l : List α) (k : Nat), 0 <= idxG p k l -> ∃ j, idxG p k l = ((k + j : Nat) : Int) /\ ∃ h : j < l.length, p l[j] = true
 | [], k, h => absurd h (by unfold idxG; omega)
 | x :: l, k, h => by
  unfold idxG at h ⊢
  by_cases hx : p x = true
  ·rw [if_pos hx]; exact ⟨0, by simp, by simp, by simpa using hx⟩
  ·rw [if_neg hx] at h ⊢
   obtain ⟨j, h1, h2, h3⟩ := idx_spec l (k + 1) h
   exact ⟨j + 1, by rw [h1]; congr 1; omega, by simpa using h2, by simpa using h3⟩
theorem pos_spec {V : List Vx} {v : Vx} (h : 0 <= pos29 V v) : ∃ j : Nat, pos29 V v = (j : Int) /\ ∃ h : j < V.length, V[j] = v := by
 obtain ⟨j, h1, h2, h3⟩ := idx_spec V 0 h
 exact ⟨j, by rw [Nat.zero_add] at h1; exact h1, h2, (of_decide_eq_true h3).symm⟩
theorem pos_nn {V : List Vx} {v : Vx} : 0 <= pos29 V v ↔ v ∈ V := by
 have h := idxG_iff (p := fun y => decide (v = y)) V 0
 have e : (0 <= pos29 V v) ↔ decide (0 <= idxG (fun y => decide (v = y)) 0 V) = true := by rw [decide_eq_true_eq]; rfl
 rw [e, h, List.any_eq_true]
 exact ⟨fun ⟨x, h1, h2⟩ => (of_decide_eq_true h2) ▸ h1, fun h => ⟨v, h, decide_eq_true rfl⟩⟩
theorem pos_at {V : List Vx} (hV : V.Nodup) {k : Nat} (h : k < V.length) : pos29 V V[k] = (k : Int) := by
 obtain ⟨j, h1, h2, h3⟩ := pos_spec (pos_nn.2 (List.getElem_mem h))
 rw [h1, (List.getElem_inj hV).1 h3]
def catS (V : List Vx) (C : Cx) (out : List Vx) (v : Vx) : List Vx := if 0 <= pos29 V v then out ++ (C[(pos29 V v).toNat]?.getD []) else out
def catP (V : List Vx) (C : Cx) (s : List Vx) : List Vx := s.foldl (catS V C) []
def unP (V : List Vx) (C : Cx) (s : List Vx) : List Vx := if (ofV (catP V C s)).2 ≠ 0 then [] else (ofV (catP V C s)).1
def stepU (s : List Vx) (out : List Vx) (p : Vx × List Vx) : List Vx := if p.1 ∈ s then ZBF out p.2 else out
def unR (V : List Vx) (C : Cx) (s : List Vx) : List Vx := (V.zip C).foldl (stepU s) []
theorem mem_cat {V : List Vx} {C : Cx} {x : Vx} : ∀ (s out : List Vx), x ∈ s.foldl (catS V C) out ↔ x ∈ out \/ ∃ v ∈ s, 0 <= pos29 V v /\ x ∈ C[(pos29 V v).toNat]?.getD []
 | [], out => by simp
 | v :: s, out => by
  rw [List.foldl_cons, mem_cat s]
  have e : x ∈ catS V C out v ↔ x ∈ out \/ (0 <= pos29 V v /\ x ∈ C[(pos29 V v).toNat]?.getD []) := by
   unfold catS
   by_cases h : 0 <= pos29 V v
   ·rw [if_pos h, List.mem_append]; simp [h]
   ·rw [if_neg h]; simp [h]
  rw [e]
  simp only [List.mem_cons, exists_eq_or_imp, or_assoc]
theorem cat_len (V : List Vx) (C : Cx) (hc : ∀ c ∈ C, c.length <= 8) : ∀ (s out : List Vx), (s.foldl (catS V C) out).length <= out.length + 8 * s.length
 | [], out => by simp
 | v :: s, out => by
  rw [List.foldl_cons]
  have h1 := cat_len V C hc s (catS V C out v)
  have h2 : (catS V C out v).length <= out.length + 8 := by
   unfold catS
   split
   ·rw [List.length_append]
    have : (C[(pos29 V v).toNat]?.getD []).length <= 8 := by
     cases h : C[(pos29 V v).toNat]? with
     | none => simp
     | some c => exact hc c (List.mem_of_getElem? h)
    omega
   ·omega
  simp only [List.length_cons]
  omega
theorem mem_stepU {s : List Vx} {x : Vx} : ∀ (L : List (Vx × List Vx)) (out : List Vx), x ∈ L.foldl (stepU s) out ↔ x ∈ out \/ ∃ p ∈ L, p.1 ∈ s /\ x ∈ p.2
 | [], out => by simp
 | p :: L, out => by
  rw [List.foldl_cons, mem_stepU L]
  have e : x ∈ stepU s out p ↔ x ∈ out \/ (p.1 ∈ s /\ x ∈ p.2) := by
   unfold stepU
   by_cases h : p.1 ∈ s
   ·rw [if_pos h, ZAq]; simp [h]
   ·rw [if_neg h]; simp [h]
  rw [e]
  simp only [List.mem_cons, exists_eq_or_imp, or_assoc]
theorem asc_stepU {s : List Vx} : ∀ (L : List (Vx × List Vx)) {out : List Vx}, Asc out -> Asc (L.foldl (stepU s) out)
 | [], _, h => h
 | p :: L, out, h => by
  rw [List.foldl_cons]
  refine asc_stepU L ?_
  unfold stepU
  split
  ·exact ZCf h
  ·exact h
theorem unR_asc (V : List Vx) (C : Cx) (s : List Vx) : Asc (unR V C s) := asc_stepU _ (by simp [Asc])
theorem ZB6 {V : List Vx} {C : Cx} {s : List Vx} {x : Vx} : x ∈ unR V C s ↔ ∃ (k : Nat) (h : k < V.length) (h' : k < C.length), V[k] ∈ s /\ x ∈ C[k] := by
 unfold unR
 rw [mem_stepU]
 constructor
 ·rintro (h | ⟨p, hp, h1, h2⟩)
  ·cases h
  ·obtain ⟨k, hk, rfl⟩ := List.mem_iff_getElem.1 hp
   rw [List.length_zip] at hk
   rw [List.getElem_zip] at h1 h2
   exact ⟨k, by omega, by omega, h1, h2⟩
 ·rintro ⟨k, h, h', h1, h2⟩
  exact .inr ⟨(V[k], C[k]), List.mem_iff_getElem.2 ⟨k, by rw [List.length_zip]; omega, by rw [List.getElem_zip]⟩, h1, h2⟩
theorem mem_catR {V : List Vx} {C : Cx} (hV : V.Nodup) (hl : C.length = V.length) {s : List Vx} {x : Vx} : x ∈ catP V C s ↔ x ∈ unR V C s := by
 unfold catP
 rw [mem_cat, ZB6]
 constructor
 ·rintro (h | ⟨v, h1, h2, h3⟩)
  ·cases h
  ·obtain ⟨j, e, hj, rfl⟩ := pos_spec h2
   rw [e, Int.toNat_natCast, List.getElem?_eq_getElem (by omega), Option.getD_some] at h3
   exact ⟨j, hj, by omega, h1, h3⟩
 ·rintro ⟨k, h, h', h1, h2⟩
  refine .inr ⟨V[k], h1, ?_, ?_⟩
  ·rw [pos_at hV h]; omega
  ·rw [pos_at hV h, Int.toNat_natCast, List.getElem?_eq_getElem h', Option.getD_some]; exact h2
theorem unP_is {V : List Vx} {C : Cx} (hV : Asc V) (hl : C.length = V.length) (hc : ∀ c ∈ C, Zn c = 0) (s : List Vx) : unP V C s = if 8 < (unR V C s).length then [] else unR V C s := by
 have hm := fun x => mem_catR (asc_nodup hV) hl (s := s) (x := x)
 have e : ZBF [] (catP V C s) = unR V C s := ZCa (ZCf (by simp [Asc])) (unR_asc _ _ _) fun x => by rw [ZAq, hm]; simp
 have hr : (catP V C s).all rngV = true := List.all_eq_true.2 fun x hx => by
  obtain ⟨k, h, h', _, h2⟩ := ZB6.1 ((hm x).1 hx)
  exact (ZM.1 (hc _ (List.getElem_mem h'))).2.2.1 x h2
 unfold unP ofV
 rw [e]
 by_cases h0 : (catP V C s).length = 0
 ·have : catP V C s = [] := List.length_eq_zero_iff.1 h0
  rw [this] at e
  rw [if_pos h0, <- e]
  rfl
 ·rw [if_neg h0, if_neg (show ¬ (catP V C s).all rngV = false by rw [hr]; decide)]
  by_cases h8 : 8 < (unR V C s).length
  ·rw [if_pos h8, if_pos h8]; rfl
  ·rw [if_neg h8, if_neg h8]; rfl
def okP (c : Cx) (V : List Vx) (C : Cx) (f : List Vx) : Bool := decide ((contC c (unP V C f)).2 = 0) && (contC c (unP V C f)).1
def carE (c : Cx) : List (List Vx) -> Int
 | [] => 0
 | s :: l => if Zn s ≠ 0 then Zn s else if hasC' c s = false then 6 else carE c l
def chk29 (p : List Vx -> Bool) (c F : Cx) (V : List Vx) (C : Cx) : Int :=
 if ZAn c ≠ 0 then ZAn c else if ZAn F ≠ 0 then ZAn F else if ¬ (V = ZB9 F /\ C.length = V.length) then 15 else if carE c C ≠ 0 then carE c C else if F.all p = true then 0 else 22
theorem carE_zero {c : Cx} : ∀ {l : List (List Vx)}, carE c l = 0 -> ∀ s ∈ l, Zn s = 0 /\ hasC' c s = true
 | [], _, _, h => by cases h
 | s :: l, h, x, hx => by
  unfold carE at h
  by_cases h1 : Zn s ≠ 0
  ·rw [if_pos h1] at h; exact absurd h h1
  rw [if_neg h1] at h
  by_cases h2 : hasC' c s = false
  ·rw [if_pos h2] at h; exact absurd h (by decide)
  rw [if_neg h2] at h
  rcases List.mem_cons.1 hx with rfl | hx
  ·exact ⟨by omega, by simpa using h2⟩
  ·exact carE_zero h x hx
end
end Go.Proofs.YtmcllakdbgnfiaaGreatDoor
