/-
  Part 34 of the texts that the claims of this seat lean on: walks of the program's functions by contracts over symbolic frames, and plain laws of what they compute. No condition.
-/
import Derived.Test.YtgppfikidagfpaaGreatDoorVc7
import Derived.Test.YtgppfikidagfpaaGreatDoorVc11
import Derived.Test.YtgppfikidagfpaaGreatDoorVc14
import Derived.Test.YtgppfikidagfpaaGreatDoorVc15
import Derived.Test.YtgppfikidagfpaaGreatDoorVc17
import Derived.Test.YtgppfikidagfpaaGreatDoorVc23
import Derived.Test.YtgppfikidagfpaaGreatDoorVc25
import Derived.Test.YtgppfikidagfpaaGreatDoorVc26
import Derived.Test.YtgppfikidagfpaaGreatDoorVc27
import Derived.Test.YtgppfikidagfpaaGreatDoorVc31
import Derived.Test.YtgppfikidagfpaaGreatDoorVc33
set_option linter.unusedVariables false
set_option linter.unusedSimpArgs false
set_option linter.unusedSectionVars false
namespace Go.Proofs.YtgppfikidagfpaaGreatDoor
open Go.RowKit
set_option linter.unusedSimpArgs false

set_option maxHeartbeats 2000000
set_option maxRecDepth 100000
def exS : List Vx := [(0, 5), (1, 0)]
def exB : Cx := [[(0, 0), (1, 2)], [(0, 1), (1, 2)]]
theorem ex_part : partP 2 = ([[1, 2], [2, 1], [3]], 0) ∧ (partP 3).2 = 0 ∧ (partP 3).1.length = 13 ∧ (partP 4).2 = 0 ∧ (partP 4).1.length = 75 := by decide +kernel
theorem ex_fac : facetP exS [2, 1] = ([(0, 3), (1, 2)], 0) := by decide +kernel
theorem ex_sub : subP exS = (([[(0, 1), (1, 3)], [(0, 3), (1, 2)], [(0, 3), (1, 3)]], [(0, 1), (0, 3), (1, 2), (1, 3)], [[(0, 5)], exS, [(1, 0)], exS]), 0) := by decide +kernel
theorem itoa1 (n : Nat) (h : n < 10) : Lib.itoa (n : Int) = [UInt8.ofNat (48 + n)] := by rw [Lib.itoa_nonneg, Lib.decDigits_one h]
theorem ex_t1 : txS [(0, 5)] = [48, 47, 53, 32] := by
  show (((Lib.itoa ((0 : Nat) : Int) ++ [47]) ++ Lib.itoa ((5 : Nat) : Int)) ++ [32]) ++ [] = _
  rw [itoa1 0 (by decide), itoa1 5 (by decide)]
  rfl
theorem ex_t2 : txS [(1, 0)] = [49, 47, 48, 32] := by
  show (((Lib.itoa ((1 : Nat) : Int) ++ [47]) ++ Lib.itoa ((0 : Nat) : Int)) ++ [32]) ++ [] = _
  rw [itoa1 0 (by decide), itoa1 1 (by decide)]
  rfl
theorem ex_t3 : txS exS = [48, 47, 53, 32, 49, 47, 48, 32] := by
  have h : txS exS = txS [(0, 5)] ++ txS [(1, 0)] := by
    unfold txS exS
    simp
  rw [h, ex_t1, ex_t2]
  rfl
theorem ex_faces : facK [exS] = [[(0, 5)], [(1, 0)], exS] := by decide +kernel
theorem ex_num : numM [exS] = [([48, 47, 53, 32], 0), ([49, 47, 48, 32], 1), ([48, 47, 53, 32, 49, 47, 48, 32], 2)] := by
  unfold numM
  rw [ex_faces]
  simp only [List.foldl_cons, List.foldl_nil]
  unfold numS
  rw [ex_t1, ex_t2, ex_t3]
  decide +kernel
theorem ex_ords : ordS 3 = [[1, 2], [2, 1]] := by decide +kernel
theorem ex_at : atB exS (orB [1, 2] 1) = [(0, 5)] ∧ atB exS (orB [1, 2] 2) = exS ∧ atB exS (orB [2, 1] 1) = [(1, 0)] ∧ atB exS (orB [2, 1] 2) = exS := by decide +kernel
theorem ex_bx : barX (numM [exS]) exS [1, 2] 0 = (0, 0) ∧ barX (numM [exS]) exS [1, 2] 1 = (1, 2) ∧ barX (numM [exS]) exS [2, 1] 0 = (0, 1) ∧ barX (numM [exS]) exS [2, 1] 1 = (1, 2) := by
  obtain ⟨a1, a2, a3, a4⟩ := ex_at
  unfold barX numF
  rw [a1, a2, a3, a4, ex_t1, ex_t2, ex_t3, ex_num]
  decide +kernel
theorem ex_bar : barF (numM [exS]) [exS] = exB := by
  obtain ⟨b1, b2, b3, b4⟩ := ex_bx
  unfold barF
  rw [List.flatMap_cons, List.flatMap_nil, List.append_nil, show 2 ^ exS.length - 1 = 3 from rfl, ex_ords]
  simp only [List.map_cons, List.map_nil]
  unfold barV
  show [[barX _ exS [1, 2] 0, barX _ exS [1, 2] 1], [barX _ exS [2, 1] 0, barX _ exS [2, 1] 1]] = exB
  rw [b1, b2, b3, b4]
  rfl
def exK (v : Vx) : List Vx := if v = (0, 0) then [(0, 5)] else if v = (0, 1) then [(1, 0)] else if v = (1, 2) then exS else []
theorem exK_len (v : Vx) : (exK v).length ≤ 1000 := by
  unfold exK
  split
  · simp
  · split
    · simp
    · split
      · unfold exS; simp
      · simp
theorem baryX_p : CallC Tryz.prog 36 ([dS Cpx [exS]] ++ ([] : List Value).map dX) [] (fun d hp2 => ∃ B : Sb, d = dT [dS SubR (exB, B.2.1, B.2.2), dI 0] ∧ hp2 = []) := by
  have hb := ex_bar
  refine (bary29_p [exS] exB exK (by decide) (by decide +kernel) (by decide +kernel) ?_ (by decide +kernel) (by decide +kernel) (by rw [hb]; decide) (by rw [hb]; decide) ?_ exK_len (by rw [hb]; decide +kernel)).monoK fun d hp2 ⟨h1, h2⟩ => ⟨([], _, _), h1, h2⟩
  · intro s hs v hv
    cases List.mem_singleton.1 hs
    unfold exS at hv
    simp only [List.mem_cons, List.not_mem_nil, or_false] at hv
    rcases hv with rfl | rfl <;> decide
  · intro s hs bl hbl k hk
    cases List.mem_singleton.1 hs
    rw [show 2 ^ exS.length - 1 = 3 from rfl, ex_ords] at hbl
    obtain ⟨b1, b2, b3, b4⟩ := ex_bx
    obtain ⟨a1, a2, a3, a4⟩ := ex_at
    have hok : ∀ a b : Fin 8, okV (((a.val : Nat) : Int), ((b.val : Nat) : Int)) := fun a b => by
      unfold okV is64
      have := a.2; have := b.2
      simp only
      omega
    simp only [List.mem_cons, List.not_mem_nil, or_false] at hbl
    rcases hbl with rfl | rfl
    · have : k = 0 ∨ k = 1 := by simp at hk; omega
      rcases this with rfl | rfl
      · rw [b1, a1]; exact ⟨hok 0 0, by decide⟩
      · rw [b2, a2]; exact ⟨hok 1 2, by decide⟩
    · have : k = 0 ∨ k = 1 := by simp at hk; omega
      rcases this with rfl | rfl
      · rw [b3, a3]; exact ⟨hok 0 1, by decide⟩
      · rw [b4, a4]; exact ⟨hok 1 2, by decide⟩
theorem v29_p (c n : Int) : Fn Tryz.prog 58 [dI c, dI n] (dS RV (c, n)) := by
  refine Fn.introC1 tyV Tryz.func58 rfl rfl ?_
  simp only [Tryz.ntmps58, List.length_cons, List.length_nil, Nat.reduceAdd, Nat.reduceSub, List.replicate_succ, List.replicate_zero, List.cons_append, List.nil_append]
  ((repeat' (first | (apply WL.opN; exact yF; dsimp only [setD, z0, z1]) | refine WL.nil ?_ | refine WC.seqK fun Kx hK => ?_ | (refine hK _ _ ?_; clear hK) | refine WC.region ?_ | (apply WL.alloc; (first | exact tzV | exact tzC); (first | exact shape_X rfl | exact shape_XV | exact shape_C0 rfl); (intro _; dsimp only [setD, z0, z1])) | (apply WL.storeF; (exact tD); rfl; (exact oD); (exact hD); dsimp only [setD, z0, z1]) | (apply WL.opN; (focus ((first | (first | (apply SY.mkV0 vxT <;> (exact oD)) | (apply SY.mkV1 vxT <;> (exact oD)) | (apply SY.mkV vxT <;> (exact oD))) | fail); all_goals infer_instance)); dsimp only [setD, z0, z1]) | refine WC.ret ?_)); all_goals (first | ((repeat clear hK); (repeat clear Kx))))
  (refine ⟨trivial, _, rfl, ?_⟩; exact fD)
theorem sameI_c (l : List Int) : Fn Tryz.prog 73 [dS Ints l, dS Ints l] (dB true) := by
  (refine Fn.intro1 Tryz.func73 rfl rfl ?_; simp only [Tryz.ntmps73, List.length_cons, List.length_nil, Nat.reduceAdd, Nat.reduceSub, List.replicate_succ, List.replicate_zero, List.cons_append, List.nil_append])
  (first | refine WC.know (t := 0) rfl le_K fun hl0 => ?_ | refine WC.know (t := 0) rfl le_A fun hl0 => ?_ | refine WC.know (t := 0) rfl le_C fun hl0 => ?_); simp only [maxLen] at hl0
  (repeat' (first | ((first | apply WL.opN | apply WD.opN); exact yF; dsimp only [setD, z0, z1]) | refine WL.nil ?_ | refine WC.seqK fun Kx hK => ?_ | (refine hK _ _ ?_; clear hK) | refine WC.region ?_ | ((first | apply WL.opN | apply WD.opN); (focus ((first | ((first | apply SY.move | apply SY.assign | apply SY.lss | apply SY.neq) <;> (exact oD)) | (apply SY.len; (exact oD); (exact nD); (exact uD)) | fail); all_goals infer_instance)); dsimp only [setD, z0, z1]) | (apply WC.condN; (exact oD); all_goals (intro h; try exact xD)) | refine WC.skip ?_ | refine WC.block ?_))
  (refine WC.loopU (X := Nat) (fun k => [(5, dI (k : Int)), (4, dA), (11, dA), (12, dA), (13, dA), (14, dA), (15, dA), (16, dA), (17, dA), (18, dA), (19, dA), (20, dA), (21, dA), (22, dA), (23, dA), (24, dA), (25, dA)]) (fun k => []) (fun k => l.length - k) (fun k => k ≤ l.length) 0 ?start ?frame0 ?objs0 ?round)
  case start => exact Nat.zero_le _
  case frame0 => ((try dsimp only [upds, z0, z1]); repeat (first | exact LeF.nil | refine LeF.co (k := ?_)))
  case objs0 => rfl
  case round =>
    rintro k h1
    dsimp only [upds, z0, z1]
    by_cases hk : k < l.length
    · ((repeat' (first | ((first | apply WL.opN | apply WD.opN); exact yF; dsimp only [setD, z0, z1]) | refine WL.nil ?_ | refine WD.nil ?_ | refine WC.seqK fun Kx hK => ?_ | (refine hK _ _ ?_; clear hK) | refine WC.region ?_ | (apply WC.draw; kernel_rfl; kernel_rfl) | ((first | apply WL.opN | apply WD.opN); (focus ((first | ((first | apply SY.move | apply SY.assign | apply SY.lss | apply SY.neq) <;> (exact oD)) | ((first | apply SY.add) <;> first | exact oD | omega) | (apply SY.len; (exact oD); (exact nD); (exact uD)) | (apply SY.ix; (exact eD); (exact oD); (exact oD); exact kD) | fail); all_goals infer_instance)); dsimp only [setD, z0, z1]) | (apply WC.condD; (exact oD); all_goals (intro h; try exact xD)) | (apply WC.condN; (exact oD); all_goals (intro h; try exact xD)) | refine WC.skip ?_ | refine WC.block ?_ | refine ThenD.n ?_)); all_goals (first | ((repeat clear hK); (repeat clear Kx))))
      all_goals first
        | (exfalso; omega)
        | ((refine ⟨k + 1, ?_, by first | omega | (simp only; omega), rfl, ?_⟩; rotate_left; ((try dsimp only [upds, z0, z1]); repeat (first | exact LeF.nil | refine LeF.co (k := ?_))); (try dsimp only)); omega)
    · ((repeat' (first | ((first | apply WL.opN | apply WD.opN); exact yF; dsimp only [setD, z0, z1]) | refine WL.nil ?_ | refine WC.seqK fun Kx hK => ?_ | (refine hK _ _ ?_; clear hK) | (refine Kont.skip ?_; clear hK) | refine WC.region ?_ | ((first | apply WL.opN | apply WD.opN); (focus ((first | ((first | apply SY.move | apply SY.assign | apply SY.lss | apply SY.neq) <;> (exact oD)) | (apply SY.len; (exact oD); (exact nD); (exact uD)) | fail); all_goals infer_instance)); dsimp only [setD, z0, z1]) | (apply WC.condD; (exact oD); all_goals (intro h; try exact xD)) | refine WC.ret ?_ | refine WC.exit ?_)); all_goals (first | ((repeat clear hK); (repeat clear Kx))))
      all_goals first
        | (exfalso; omega)
        | (refine ⟨trivial, _, rfl, ?_⟩; exact fD)
theorem sameB_c (l : List (List Int)) : Fn Tryz.prog 20 [dS Rows l, dS Rows l] (dB true) := by
  (refine Fn.intro1 Tryz.func20 rfl rfl ?_; simp only [Tryz.ntmps20, List.length_cons, List.length_nil, Nat.reduceAdd, Nat.reduceSub, List.replicate_succ, List.replicate_zero, List.cons_append, List.nil_append])
  (first | refine WC.know (t := 0) rfl le_K fun hl0 => ?_ | refine WC.know (t := 0) rfl le_A fun hl0 => ?_ | refine WC.know (t := 0) rfl le_C fun hl0 => ?_); simp only [maxLen] at hl0
  (repeat' (first | ((first | apply WL.opN | apply WD.opN); exact yF; dsimp only [setD, z0, z1]) | refine WL.nil ?_ | refine WC.seqK fun Kx hK => ?_ | (refine hK _ _ ?_; clear hK) | refine WC.region ?_ | ((first | apply WL.opN | apply WD.opN); (focus ((first | (apply SY.len; exact OpD.t rfl; exact len_A; exact elRo.unt) | ((first | apply SY.move | apply SY.assign | apply SY.lss | apply SY.neq | apply SY.not) <;> (exact oD)) | fail); all_goals infer_instance)); dsimp only [setD, z0, z1]) | (apply WC.condN; (exact oD); all_goals (intro h; try exact xD)) | refine WC.skip ?_ | refine WC.block ?_))
  all_goals try (exfalso; omega)
  (refine WC.loopU (X := Nat) (fun k => [(5, dI (k : Int)), (4, dA), (11, dA), (12, dA), (13, dA), (14, dA), (15, dA), (16, dA), (17, dA), (18, dA), (19, dA), (20, dA), (21, dA), (22, dA), (23, dA), (24, dA), (25, dA), (26, dA)]) (fun k => []) (fun k => l.length - k) (fun k => k ≤ l.length) 0 ?start ?frame0 ?objs0 ?round)
  case start => exact Nat.zero_le _
  case frame0 => ((try dsimp only [upds, z0, z1]); repeat (first | exact LeF.nil | refine LeF.co (k := ?_)))
  case objs0 => rfl
  case round =>
    rintro k h1
    dsimp only [upds, z0, z1]
    by_cases hk : k < l.length
    · ((repeat' (first | ((first | apply WL.opN | apply WD.opN); exact yF; dsimp only [setD, z0, z1]) | refine WL.nil ?_ | refine WD.nil ?_ | refine WC.seqK fun Kx hK => ?_ | (refine hK _ _ ?_; clear hK) | refine WC.region ?_ | (apply WC.draw; kernel_rfl; kernel_rfl) | ((first | apply WL.opN | apply WD.opN); (focus ((first | (apply SY.len; exact OpD.t rfl; exact len_A; exact elRo.unt) | (refine SY.ix (R := Ints) (_gR := inferInstance) elRo (OpD.t rfl) (OpD.t rfl) hk) | (apply SY.load; exact tyIn; exact OpD.t rfl) | (apply SY.call (sameI_c l[k]) Tryz.call73; (exact aD)) | (exact SY.notT (OpD.t rfl)) | ((first | apply SY.move | apply SY.assign | apply SY.lss | apply SY.neq | apply SY.not) <;> (exact oD)) | ((first | apply SY.add) <;> first | exact oD | omega) | fail); all_goals infer_instance)); dsimp only [setD, z0, z1]) | (apply WC.condF; (exact oD); (with_reducible rfl)) | (apply WC.condD; (exact oD); all_goals (intro h; try exact xD)) | refine WC.skip ?_ | refine WC.block ?_ | refine ThenD.n ?_)); all_goals (first | ((repeat clear hK); (repeat clear Kx))))
      all_goals first
        | (exfalso; omega)
        | ((refine ⟨k + 1, ?_, by first | omega | (simp only; omega), rfl, ?_⟩; rotate_left; ((try dsimp only [upds, z0, z1]); repeat (first | exact LeF.nil | refine LeF.co (k := ?_))); (try dsimp only)); omega)
    · ((repeat' (first | ((first | apply WL.opN | apply WD.opN); exact yF; dsimp only [setD, z0, z1]) | refine WL.nil ?_ | refine WC.seqK fun Kx hK => ?_ | (refine hK _ _ ?_; clear hK) | (refine Kont.skip ?_; clear hK) | refine WC.region ?_ | ((first | apply WL.opN | apply WD.opN); (focus ((first | (apply SY.len; exact OpD.t rfl; exact len_A; exact elRo.unt) | ((first | apply SY.move | apply SY.assign | apply SY.lss | apply SY.neq | apply SY.not) <;> (exact oD)) | fail); all_goals infer_instance)); dsimp only [setD, z0, z1]) | (apply WC.condD; (exact oD); all_goals (intro h; try exact xD)) | refine WC.ret ?_ | refine WC.exit ?_)); all_goals (first | ((repeat clear hK); (repeat clear Kx))))
      all_goals first
        | (exfalso; omega)
        | (refine ⟨trivial, _, rfl, ?_⟩; exact fD)
end Go.Proofs.YtgppfikidagfpaaGreatDoor
namespace Go.Proofs.YtgppfikidagfpaaGreatDoor
open Go.RowKit
section
variable {P : Program} {ops : Array Oper} {hp : List HObj} {fr : List Dat} {dst : Option Tmp} {ty : TypeId} {ps : String} {af : Array Edge} {g : Option (Nat × Bool)} {T T2 : TypeId}
theorem SY.neqF {p q : Int} {x y : Operand} (h : p = q) (hx : OpD fr x (dI p)) (hy : OpD fr y (dI q)) : SY P ops hp { dst := dst, op := .binOp .neq T x y T2, type := ty, pos := ps, after := af, guard := g } fr (dB false) := by
  have := SY.neq (P := P) (ops := ops) (hp := hp) (dst := dst) (ty := ty) (ps := ps) (af := af) (g := g) (T := T) (T2 := T2) hx hy
  rwa [decide_eq_true h] at this
theorem SY.eqlT {p q : Int} {x y : Operand} (h : p = q) (hx : OpD fr x (dI p)) (hy : OpD fr y (dI q)) : SY P ops hp { dst := dst, op := .binOp .eql T x y T2, type := ty, pos := ps, after := af, guard := g } fr (dB true) := by
  have := SY.eql (P := P) (ops := ops) (hp := hp) (dst := dst) (ty := ty) (ps := ps) (af := af) (g := g) (T := T) (T2 := T2) hx hy
  rwa [decide_eq_true h] at this
theorem SY.add00 {x y : Operand} (hx : OpD fr x (dI 0)) (hy : OpD fr y (dI 0)) : SY P ops hp { dst := dst, op := .binOp .add T x y T2, type := ty, pos := ps, after := af, guard := g } fr (dI 0) := SY.add hx hy (by omega)
end
set_option linter.unusedSimpArgs false

set_option maxHeartbeats 2000000
set_option maxRecDepth 100000
set_option maxHeartbeats 16000000 in
theorem awake29_p : Fn Tryz.prog 13 [] (dB true) := by
  obtain ⟨x1, x2, x3, x4, x5⟩ := ex_part
  have c1 := partitions_p 2
  rw [x1] at c1
  have c2 := partitions_p 3
  rw [x2] at c2
  have c3 := partitions_p 4
  rw [x4] at c3
  generalize (partP 3).1 = l3 at *
  generalize (partP 4).1 = l4 at *
  have c4 : Fn Tryz.prog 16 [dS Verts [(0, 5), (1, 0)], dS Ints [2, 1]] (dT [dS Verts [(0, 3), (1, 2)], dI 0]) := by
    have := facetP_p exS [2, 1]
    rw [ex_fac] at this
    exact this
  have c5 : Fn Tryz.prog 18 [dS Verts [(0, 5), (1, 0)]] (dT [dS SubR ([[(0, 1), (1, 3)], [(0, 3), (1, 2)], [(0, 3), (1, 3)]], [(0, 1), (0, 3), (1, 2), (1, 3)], [[(0, 5)], [(0, 5), (1, 0)], [(1, 0)], [(0, 5), (1, 0)]]), dI 0]) := by
    have := simplex29_p exS
    rw [ex_sub] at this
    exact this
  have c6 : CallC Tryz.prog 36 ([dS Cpx [[(0, 5), (1, 0)]]] ++ ([] : List Value).map dX) [] (fun d hp2 => ∃ B : Sb, d = dT [dS SubR ([[(0, 0), (1, 2)], [(0, 1), (1, 2)]], B.2.1, B.2.2), dI 0] ∧ hp2 = []) := baryX_p
  have s : ∀ l : Cx, Fn Tryz.prog 59 [dS Simps l, dS Simps l] (dB true) := fun l => by
    have := sameAll_c l l
    rwa [decide_eq_true rfl] at this
  have s1 : ∀ l : List Vx, Fn Tryz.prog 21 [dS Verts l, dS Verts l] (dB true) := fun l => by
    have := same_c l l
    rwa [decide_eq_true (cmpL_eq.2 rfl)] at this
  refine Fn.intro1 Tryz.func13 rfl rfl ?_
  show WC _ _ _ (List.replicate 137 (dX undef)) []
  simp only [List.replicate_succ, List.replicate_zero]
  ((repeat' (first | ((first | apply WL.opN | apply WD.opN); exact yF; dsimp only [setD, z0, z1]) | refine WL.nil ?_ | refine WD.nil ?_ | refine WC.seqK fun Kx hK => ?_ | (refine hK _ _ ?_; clear hK) | refine WC.region ?_ | (apply WC.draw; kernel_rfl; kernel_rfl) |  (refine WL.allocS (zs := [.slice none 0 0, .slice none 0 0, .slice none 0 0]) tzSb (by decide) (by simp [Value.oneCell']) fun b6 => ?_; dsimp only [setD, z0, z1, List.map_cons, List.map_nil]) |  (refine WL.storeW tySb (OpD.t rfl) (OpD.tle rfl R3_agg) rfl rfl ?_; dsimp only [setD, z0, z1]) |  (refine WL.callC (hp1 := []) (caps := []) c6 Tryz.call36 OpD.f (by (exact aD)) ?_; rintro d' hp2 ⟨B, rfl, rfl⟩; dsimp only [setD, z0, z1, List.cons_append, List.nil_append]) | ((first | apply WL.opG | apply WD.op); (focus (first | exact wN | (apply SYG.yes; (exact wY); ((first | (apply SY.call (v29_p _ _) Tryz.call58; (exact aD)) | (apply SY.call c1 Tryz.call14; exact ArgsD.cons OpD.i ArgsD.nil) | (apply SY.call c2 Tryz.call14; exact ArgsD.cons OpD.i ArgsD.nil) | (apply SY.call c3 Tryz.call14; exact ArgsD.cons OpD.i ArgsD.nil) | (apply SY.call (c4) Tryz.call16; exact ArgsD.cons (OpD.t rfl) (ArgsD.cons (OpD.t rfl) (ArgsD.nil))) | (apply SY.call (c5) Tryz.call18; exact ArgsD.cons (OpD.t rfl) (ArgsD.nil)) | (apply SY.call (sameB_c _) Tryz.call20; (exact aD)) | (apply SY.call (s1 _) Tryz.call21; (exact aD)) | (apply SY.call (s _) Tryz.call59; (exact aD)) | (refine SY.fldS strSb (OpD.t rfl) (by decide)) | (apply SY.fldX cpxT; exact OpD.t rfl) | (refine SY.loadS tySS (OpD.t rfl) (.head _) rfl) | (refine SY.loadS tySi (OpD.t rfl) (.head _) rfl) | (apply SY.len; exact OpD.t rfl; exact len_A; exact elRo.unt) | (exact SY.build1' (R := Ints) (_gR := inferInstance) (els := [[1, 2], [2, 1], [3]]) elRo (ElsD.cn (OpD.t rfl) (ElsD.cn (OpD.t rfl) (ElsD.cn (OpD.t rfl) ElsD.nl))) rfl rfl (fun _ => shape_A) (Nat.le_of_ble_eq_true rfl)) | (exact SY.add00 (OpD.t rfl) (OpD.t rfl)) | (exact SY.neqF (p := 0) (q := 0) rfl (OpD.t rfl) OpD.i) | (exact SY.eqlT (p := 0) (q := 0) rfl (OpD.t rfl) OpD.i) | (exact SY.eqlT (p := ((l3.length : Nat) : Int)) (q := 13) (x3 ▸ rfl) (OpD.t rfl) OpD.i) | (exact SY.eqlT (p := ((l4.length : Nat) : Int)) (q := 75) (x5 ▸ rfl) (OpD.t rfl) OpD.i) | (exact SY.notT (OpD.t rfl)) | ((first | apply SY.move | apply SY.assign | apply SY.eql | apply SY.neq | apply SY.not) <;> (exact oD)) | (apply SY.mkC cpxT; exact OpD.t rfl) | (apply SY.buildE; (exact eD); ((try simp only [List.map_cons, List.map_nil]); (repeat (first | exact ElsD.nl | (apply ElsD.cn; (first | exact OpD.t rfl | exact OpD.i | exact OpD.b | exact OpD.tle rfl (by first | exact Dat.le_nil | exact Dat.le_nilK (by decide)) | exact ⟨Dat.le_nil⟩ | exact ⟨Dat.le_nilK (by decide)⟩))))); rfl; rfl; decide; (intro _; exact shape_V); (exact (by simp))) | (apply SY.build1'; (exact eD); ((try simp only [List.map_cons, List.map_nil]); (repeat (first | exact ElsD.nl | (apply ElsD.cn; (first | exact OpD.t rfl | exact OpD.i | exact OpD.b | exact OpD.tle rfl (by first | exact Dat.le_nil | exact Dat.le_nilK (by decide)) | exact ⟨Dat.le_nil⟩ | exact ⟨Dat.le_nilK (by decide)⟩))))); rfl; rfl; (intro _; first | exact shape_K | exact shape_I | exact shape_A | exact shape_B); (exact (by simp))) | (apply SY.pickT; (exact oD); (with_reducible rfl); (exact oD)) | (apply SY.pickF; (exact oD); (with_reducible rfl); (exact oD)) | (apply SY.extract; (exact oD); rfl) | fail); all_goals infer_instance)))); dsimp only [setD, z0, z1]) | (apply WC.condF; (exact oD); (with_reducible rfl)) | refine WC.skip ?_ | refine WC.ret ?_)); all_goals (first | ((repeat clear hK); (repeat clear Kx))))
  all_goals try (exfalso; first | contradiction | omega)
  (refine ⟨trivial, _, rfl, ?_⟩; exact fD)
end Go.Proofs.YtgppfikidagfpaaGreatDoor
namespace Go.Proofs.YtgppfikidagfpaaGreatDoor
section
variable {s : List Vx}
def GoodS (s : List Vx) : Prop := chkV s = 0 ∧ diffV s = true ∧ s.length ≤ 4
theorem GoodS.len (h : GoodS s) : 1 ≤ s.length := by have := chkV_zero.1 h.1; omega
end
end Go.Proofs.YtgppfikidagfpaaGreatDoor
namespace Go.Proofs.YtgppfikidagfpaaGreatDoor
open Go.RowKit
section
variable {P : Program} {ops : Array Oper} {hp : List HObj} {fr : List Dat} {d e : Dat} {dst : Option Tmp} {ty : TypeId} {ps : String} {af : Array Edge} {g : Option (Nat × Bool)} {T T1 T2 : TypeId} {x y : Operand}
theorem SY.loadCx' {l : Cx} (T' : TyI P T1 1 true) (hx : OpD fr x (dP 1 false (dS Simps l))) : SY P ops hp { dst := dst, op := .load T1 x, type := ty, pos := ps, after := af, guard := g } fr (dS Cpx l) := SY.val fun {I w a} ho => by
  obtain ⟨b, off, u, h1, ⟨hb, cs, k1, k0, k2, k3, k4⟩, hu⟩ := hx.get (by simp [Op.operands]) ho
  simp only [Bool.false_eq_true, if_false] at k4
  subst k4
  have hc : Cells I w b off 1 true (.agg #[u]) := ⟨hb, [u], rfl, Nat.one_pos, k2, k3, rfl⟩
  refine ⟨.agg #[u], ?_, u, rfl, k2 u (by simp), hu⟩
  unfold execOp
  simp only [h1, Sem.run_bind, run_loadC T' hc, Result.andThen_ok, Sem.run_pure]
theorem SY.ixE {i : Operand} {t e : TypeId} {z : Value} {bytes n : Nat} {ag : Bool} (E : ElT P t e n z bytes ag) {α : Type} {R : Rel α} {_gR : Good R} {xs : List α} {k : Nat} {v : α} (hk : k < xs.length) (hv : xs[k] = v) (hx : OpD fr x (dS (ArrK n R) xs)) (hi : OpD fr i (dI (k : Int))) : SY P ops hp { dst := dst, op := .indexAddr t x i, type := ty, pos := ps, after := af, guard := g } fr (dP n true (dS R v)) := hv ▸ SY.ixK E hx hi hk
end
set_option linter.unusedSimpArgs false

set_option maxHeartbeats 2000000
set_option maxRecDepth 100000
theorem strCx : StrT Tryz.prog 39 1 := ⟨fun b off i w hi => by
  have : i = 0 := by omega
  subst this
  go_simp⟩
end Go.Proofs.YtgppfikidagfpaaGreatDoor
namespace Go.Proofs.YtgppfikidagfpaaGreatDoor
open Go.RowKit
section
variable {P : Program} {ops : Array Oper} {hp : List HObj} {fr : List Dat} {dst : Option Tmp} {ty : TypeId} {ps : String} {af : Array Edge} {g : Option (Nat × Bool)} {x : Operand}
theorem SY.ixE1 {i : Operand} {t e : TypeId} {z : Value} {bytes : Nat} (E : ElT P t e 1 z bytes false) {α : Type} {R : Rel α} {_gR : Good R} {xs : List α} {k : Nat} {v : α} (hk : k < xs.length) (hv : xs[k] = v) (hx : OpD fr x (dS (Arr R) xs)) (hi : OpD fr i (dI (k : Int))) : SY P ops hp { dst := dst, op := .indexAddr t x i, type := ty, pos := ps, after := af, guard := g } fr (dP 1 false (dS R v)) := hv ▸ SY.ix E hx hi hk
end
set_option linter.unusedSimpArgs false

set_option maxHeartbeats 2000000
set_option maxRecDepth 100000
end Go.Proofs.YtgppfikidagfpaaGreatDoor
namespace Go.Proofs.YtgppfikidagfpaaGreatDoor
open Go.RowKit
set_option linter.unusedSimpArgs false

set_option maxHeartbeats 2000000
set_option maxRecDepth 100000
theorem sub_zero : ∀ s b : Fin 32, b.val &&& s.val = b.val → b.val ≤ s.val ∧ s.val - b.val < 32 ∧ (0 < b.val → s.val - b.val < s.val ∨ s.val = 0) := by decide +kernel
theorem from_one : ∀ s : Fin 32, fromB s.val 1 = subB s.val := by decide +kernel
theorem from_skip : ∀ s b : Fin 32, b.val &&& s.val ≠ b.val → fromB s.val b.val = fromB s.val (b.val + 1) := by decide +kernel
theorem from_take : ∀ s b : Fin 32, b.val &&& s.val = b.val → 0 < b.val → fromB s.val b.val = b.val :: fromB s.val (b.val + 1) := by decide +kernel
theorem from_end : ∀ s : Fin 32, fromB s.val (s.val + 1) = [] := by decide +kernel
theorem ord_five : ∀ s : Fin 32, ∀ b : Fin 32, b.val ∈ subB s.val → ordN 5 (s.val - b.val) = ordN 6 (s.val - b.val) := by decide +kernel
def ordT (s b : Nat) : List (List Nat) := (fromB s b).flatMap fun c => (ordP (s - c)).map (c :: ·)
theorem ordT_one {s : Nat} (h0 : s ≠ 0) (hs : s < 32) : ordT s 1 = ordP s := by
  unfold ordT ordP
  rw [from_one ⟨s, hs⟩, ordN_succ h0]
  have e : ∀ b ∈ subB s, (ordN 6 (s - b)).map (b :: ·) = (ordN 5 (s - b)).map (b :: ·) := fun b hb => by
    have := (sub_mem.1 hb).2.1
    rw [ord_five ⟨s, hs⟩ ⟨b, by omega⟩ hb]
  generalize subB s = l at *
  induction l with
  | nil => rfl
  | cons b l ih =>
    rw [List.flatMap_cons, List.flatMap_cons, e b (by simp), ih fun c hc => e c (by simp [hc])]
theorem ordT_skip {s b : Nat} (hs : s < 32) (hb : b < 32) (h : b &&& s ≠ b) : ordT s b = ordT s (b + 1) := by
  unfold ordT; rw [from_skip ⟨s, hs⟩ ⟨b, hb⟩ h]
theorem ordT_take {s b : Nat} (hs : s < 32) (hb : b < 32) (h : b &&& s = b) (h0 : 0 < b) : ordT s b = (ordP (s - b)).map (b :: ·) ++ ordT s (b + 1) := by
  unfold ordT; rw [from_take ⟨s, hs⟩ ⟨b, hb⟩ h h0, List.flatMap_cons]
theorem ordT_end {s : Nat} (hs : s < 32) : ordT s (s + 1) = [] := by
  unfold ordT; rw [from_end ⟨s, hs⟩]; rfl
theorem ord_cnt : ∀ s : Fin 32, (ordP s.val).length ≤ 541 := by decide +kernel
theorem ord_blk (s : Nat) {bl : List Nat} (h : bl ∈ ordP s) : bl.length ≤ 6 := ord_lenB s bl h
set_option maxHeartbeats 8000000 in
theorem ordered29_c : ∀ (n s : Nat), s ≤ n → s < 32 → Fn Tryz.prog 62 [dI (s : Int)] (dS Rows ((ordP s).map intsB))
  | n, 0, _, _ => by
    (refine Fn.intro1 Tryz.func62 rfl rfl ?_; simp only [Tryz.ntmps62, List.length_cons, List.length_nil, Nat.reduceAdd, Nat.reduceSub, List.replicate_succ, List.replicate_zero, List.cons_append, List.nil_append])
    ((repeat' (first | (apply WL.opN; exact yF; dsimp only [setD, z0, z1]) | refine WL.nil ?_ | refine WC.seqK fun Kx hK => ?_ | (refine hK _ _ ?_; clear hK) | refine WC.region ?_ | (apply WL.opN; (focus ((first | (refine SY.build1' (R := Ints) (_gR := inferInstance) (els := [[]]) elRo (ElsD.cons ⟨Dat.le_nil⟩ ElsD.nil) rfl rfl (fun _ => shape_A) (by simp)) | ((first | apply SY.move | apply SY.assign | apply SY.lss | apply SY.leq | apply SY.eql | apply SY.neq | apply SY.andNot) <;> (exact oD)) | fail); all_goals infer_instance)); dsimp only [setD, z0, z1]) | (apply WC.condD; (exact oD); all_goals (intro h; try exact xD)) | refine WC.ret ?_ | refine ThenD.r ?_)); all_goals (first | ((repeat clear hK); (repeat clear Kx))))
    all_goals try (exfalso; first | contradiction | omega)
    (refine ⟨trivial, _, rfl, ?_⟩; exact fD)
  | 0, s + 1, h, _ => absurd h (by omega)
  | n + 1, s + 1, hn, hs => by
    have ih := ordered29_c n
    have h0 := ordT_one (s := s + 1) (by omega) hs
    have hc0 := ord_cnt ⟨s + 1, hs⟩
    generalize hS : s + 1 = S at *
    (refine Fn.intro1 Tryz.func62 rfl rfl ?_; simp only [Tryz.ntmps62, List.length_cons, List.length_nil, Nat.reduceAdd, Nat.reduceSub, List.replicate_succ, List.replicate_zero, List.cons_append, List.nil_append])
    (repeat' (first | (apply WL.opN; exact yF; dsimp only [setD, z0, z1]) | refine WL.nil ?_ | refine WC.seqK fun Kx hK => ?_ | (refine hK _ _ ?_; clear hK) | refine WC.region ?_ | (apply WL.opN; (focus ((first | ((first | apply SY.move | apply SY.assign | apply SY.lss | apply SY.leq | apply SY.eql | apply SY.neq | apply SY.andNot) <;> (exact oD)) | fail); all_goals infer_instance)); dsimp only [setD, z0, z1]) | (apply WC.condD; (exact oD); all_goals (intro h; try exact xD)) | refine WC.skip ?_ | refine WC.block ?_))
    all_goals try (exfalso; first | contradiction | omega)
    refine WC.nilRow 23 Ints ?_
    (refine WC.loopU (X := Nat × Value × List (List Nat)) (fun x => [(3, dX x.2.1), (4, dI (x.1 : Int)), (5, dA), (6, dA), (10, dA), (11, dA), (12, dA), (13, dA), (14, dA), (15, dA), (16, dA), (17, dA), (18, dA), (19, dA), (20, dA), (21, dA), (22, dA), (23, dA), (24, dA), (25, dA), (26, dA), (27, dA), (28, dA), (29, dA), (30, dA), (31, dA), (32, dA), (33, dA), (34, dA), (35, dA), (36, dA), (37, dA), (38, dA)]) (fun x => [hRow x.2.1 23 Ints (x.2.2.map intsB)]) (fun x => S + 1 - x.1) (fun x => 1 ≤ x.1 ∧ x.1 ≤ S + 1 ∧ x.2.2 ++ ordT S x.1 = ordP S) (1, .slice none 0 0, []) ?start ?frame0 ?objs0 ?round)
    case start => exact ⟨Nat.le_refl _, by simp only; omega, by simp only [List.nil_append]; exact h0⟩
    case frame0 => ((try dsimp only [upds, z0, z1]); repeat (first | exact LeF.nil | refine LeF.co (k := ?_)))
    case objs0 => rfl
    case round =>
      rintro ⟨b, u, o⟩ ⟨h1, h2, h3⟩
      dsimp only [upds, z0, z1]
      simp only at h1 h2 h3
      by_cases hb : b ≤ S
      · by_cases hin : b &&& S = b
        · have hz := (andnot_zero ⟨S, hs⟩ ⟨b, by omega⟩).2 hin
          have hsub := (andnot_sub ⟨S, hs⟩ ⟨b, by omega⟩ hin).1
          simp only at hz hsub
          have c1 := ih (S - b) (by omega) (by omega)
          rw [ordT_take hs (by omega) hin (by omega)] at h3
          have hrl := ord_cnt ⟨S - b, by omega⟩
          have hbl := fun bl h => ord_blk (S - b) (bl := bl) h
          simp only at hrl
          generalize ordP (S - b) = rest at *
          (repeat' (first | (apply WL.opN; exact yF; dsimp only [setD, z0, z1]) | refine WL.nil ?_ | refine WC.seqK fun Kx hK => ?_ | (refine hK _ _ ?_; clear hK) | refine WC.region ?_ | (apply WL.opN; (focus ((first | (exact SY.andNotE hz (OpD.t rfl) (OpD.t rfl)) | (exact SY.andNotE hsub (OpD.t rfl) (OpD.t rfl)) | (apply SY.call (c1) Tryz.call62; (exact aD)) | ((first | apply SY.move | apply SY.assign | apply SY.lss | apply SY.leq | apply SY.eql | apply SY.neq | apply SY.andNot) <;> (exact oD)) | fail); all_goals infer_instance)); dsimp only [setD, z0, z1]) | (apply WC.condD; (exact oD); all_goals (intro h; try exact xD)) | (apply WC.condN; (exact oD); all_goals (intro h; try exact xD)) | refine WC.skip ?_ | refine WC.block ?_))
          all_goals try (exfalso; first | contradiction | omega)
          (refine WC.loopU (X := Nat × Value × List (List Nat)) (fun x => [(3, dX x.2.1), (6, dI (x.1 : Int)), (23, dA), (24, dA), (25, dA), (26, dA), (27, dA), (28, dA), (29, dA), (30, dA), (31, dA), (32, dA), (33, dA), (34, dA), (35, dA), (36, dA), (37, dA), (38, dA)]) (fun x => [hRow x.2.1 23 Ints (x.2.2.map intsB)]) (fun x => rest.length - x.1) (fun x => x.1 ≤ rest.length ∧ x.2.2 ++ ((rest.drop x.1).map (b :: ·) ++ ordT S (b + 1)) = ordP S) (0, u, o) ?start ?frame0 ?objs0 ?round)
          case start => exact ⟨Nat.zero_le _, by simpa using h3⟩
          case frame0 => ((try dsimp only [upds, z0, z1]); repeat (first | exact LeF.nil | refine LeF.co (k := ?_)))
          case objs0 => rfl
          case round =>
            rintro ⟨j, u', o'⟩ ⟨h4, h5⟩
            dsimp only [upds, z0, z1]
            simp only at h4 h5
            have ho : o'.length ≤ 541 := by rw [← h5] at hc0; simp at hc0; omega
            by_cases hjm : j < (rest.map intsB).length
            · have hj : j < rest.length := by rw [List.length_map] at hjm; exact hjm
              have hjv : (rest.map intsB)[j] = intsB rest[j] := by simp
              have hjb := hbl _ (List.getElem_mem hj)
              have hjb2 : (intsB rest[j]).length ≤ 6 := by rw [intsB_len]; exact hjb
              have hol : (o'.map intsB).length ≤ 541 := by rw [List.length_map]; exact ho
              ((repeat' (first | (apply WL.opN; exact yF; dsimp only [setD, z0, z1]) | refine WL.nil ?_ | refine WC.seqK fun Kx hK => ?_ | (refine hK _ _ ?_; clear hK) | refine WC.region ?_ |  (apply WL.app1 elRo; exact OpD.t rfl; exact OpD.t rfl; decide; (simp only [List.length_singleton]; omega); intro v'; dsimp only [setD, z0, z1]) | (apply WL.opN; (focus ((first | (exact SY.build1' (R := Ints) (_gR := inferInstance) (els := [[(b : Int)] ++ intsB rest[j]]) elRo (ElsD.cn (OpD.t rfl) ElsD.nl) rfl rfl (fun _ => shape_A) (Nat.le_of_ble_eq_true rfl)) | (apply SY.len; exact OpD.t rfl; exact len_A; exact elRo.unt) | (refine SY.ixE1 (R := Ints) (_gR := inferInstance) elRo hjm hjv (OpD.t rfl) (OpD.t rfl)) | (apply SY.load; exact tyIn; exact OpD.t rfl) | (exact SY.full1 (R := RI) (_gR := inferInstance) (els := [(b : Int)]) elI (ElsD.cn (OpD.t rfl) ElsD.nl) rfl rfl (fun _ => shape_I) (by simp)) | (refine SY.appFull1 (R := RI) (_gR := inferInstance) (xs := [(b : Int)]) (ys := intsB rest[j]) elI (OpD.t rfl) (OpD.t rfl) (by decide) (by simp only [List.length_cons, List.length_nil]; omega)) | ((first | apply SY.move | apply SY.assign | apply SY.lss | apply SY.leq | apply SY.eql | apply SY.neq | apply SY.andNot) <;> (exact oD)) | ((first | apply SY.add) <;> first | exact oD | omega) | fail); all_goals infer_instance)); dsimp only [setD, z0, z1]) | (apply WC.condD; (exact oD); all_goals (intro h; try exact xD)) | refine WC.skip ?_ | refine WC.block ?_ | refine ThenD.n ?_)); all_goals (first | ((repeat clear hK); (repeat clear Kx))))
              all_goals try (exfalso; first | contradiction | omega)
              (refine ⟨(j + 1, _, o' ++ [b :: rest[j]]) , ?_, by first | omega | (simp only; omega), by ((try simp only);  (rw [List.map_append]; rfl)), ?_⟩; rotate_left; ((try dsimp only [upds, z0, z1]); repeat (first | exact LeF.nil | refine LeF.co (k := ?_))); (try dsimp only))
              refine ⟨by omega, ?_⟩
              rw [← h5, drop_cons' hj]; simp only [List.map_cons, List.append_assoc, List.cons_append, List.nil_append]
            · ((repeat' (first | (apply WL.opN; exact yF; dsimp only [setD, z0, z1]) | refine WL.nil ?_ | refine WC.seqK fun Kx hK => ?_ | (refine hK _ _ ?_; clear hK) | (refine Kont.skip ?_; clear hK) | refine WC.region ?_ | (apply WL.opN; (focus ((first | (apply SY.len; exact OpD.t rfl; exact len_A; exact elRo.unt) | ((first | apply SY.move | apply SY.assign | apply SY.lss | apply SY.leq | apply SY.eql | apply SY.neq | apply SY.andNot) <;> (exact oD)) | ((first | apply SY.add) <;> first | exact oD | omega) | fail); all_goals infer_instance)); dsimp only [setD, z0, z1]) | (apply WC.condD; (exact oD); all_goals (intro h; try exact xD)) | refine WC.exit ?_ | refine ThenD.n ?_)); all_goals (first | ((repeat clear hK); (repeat clear Kx))))
              all_goals try (exfalso; first | contradiction | omega)
              have hj : ¬ j < rest.length := by rw [List.length_map] at hjm; exact hjm
              rw [List.drop_of_length_le (by omega)] at h5
              (refine ⟨(b + 1, _, _), ?_, by first | omega | (simp only; omega), rfl, ?_⟩; rotate_left; ((try dsimp only [upds, z0, z1]); repeat (first | exact LeF.nil | refine LeF.co (k := ?_))); (try dsimp only))
              exact ⟨by omega, by omega, by simpa using h5⟩
        · have hz : ¬ iandnot (b : Int) (S : Int) = 0 := fun q => hin ((andnot_zero ⟨S, hs⟩ ⟨b, by omega⟩).1 q)
          rw [ordT_skip hs (by omega) hin] at h3
          ((repeat' (first | (apply WL.opN; exact yF; dsimp only [setD, z0, z1]) | refine WL.nil ?_ | refine WC.seqK fun Kx hK => ?_ | (refine hK _ _ ?_; clear hK) | (refine Kont.skip ?_; clear hK) | refine WC.region ?_ | (apply WL.opN; (focus ((first | (exact SY.andNot (OpD.t rfl) (OpD.t rfl)) | ((first | apply SY.move | apply SY.assign | apply SY.lss | apply SY.leq | apply SY.eql | apply SY.neq | apply SY.andNot) <;> (exact oD)) | ((first | apply SY.add) <;> first | exact oD | omega) | fail); all_goals infer_instance)); dsimp only [setD, z0, z1]) | (apply WC.condD; (exact oD); all_goals (intro h; try exact xD)) | (apply WC.condN; (exact oD); all_goals (intro h; try exact xD)) | refine WC.skip ?_ | refine WC.exit ?_ | refine WC.block ?_ | refine ThenD.n ?_)); all_goals (first | ((repeat clear hK); (repeat clear Kx))))
          all_goals try (exfalso; first | contradiction | omega)
          (refine ⟨(b + 1, _, _), ?_, by first | omega | (simp only; omega), rfl, ?_⟩; rotate_left; ((try dsimp only [upds, z0, z1]); repeat (first | exact LeF.nil | refine LeF.co (k := ?_))); (try dsimp only))
          exact ⟨by omega, by omega, h3⟩
      · have hbS : b = S + 1 := by omega
        subst hbS
        rw [ordT_end hs, List.append_nil] at h3
        ((repeat' (first | (apply WL.opN; exact yF; dsimp only [setD, z0, z1]) | refine WL.nil ?_ | refine WC.seqK fun Kx hK => ?_ | (refine hK _ _ ?_; clear hK) | (refine Kont.skip ?_; clear hK) | refine WC.region ?_ | (apply WL.opN; (focus ((first | ((first | apply SY.move | apply SY.assign | apply SY.lss | apply SY.leq | apply SY.eql | apply SY.neq | apply SY.andNot) <;> (exact oD)) | fail); all_goals infer_instance)); dsimp only [setD, z0, z1]) | (apply WC.condD; (exact oD); all_goals (intro h; try exact xD)) | refine WC.ret ?_ | refine WC.exit ?_)); all_goals (first | ((repeat clear hK); (repeat clear Kx))))
        all_goals try (exfalso; first | contradiction | omega)
        rw [h3]
        (refine ⟨trivial, _, rfl, ?_⟩; exact fD)
theorem partR_c (n : Int) : Fn Tryz.prog 15 [dI n] (dT [dS Rows (partP n).1, dI (partP n).2]) := by
  by_cases h : n < 1 ∨ 5 < n
  · rw [show partP n = ([], 2) from if_pos h]
    (refine Fn.intro2 Tryz.func15 rfl rfl ?_; simp only [Tryz.ntmps15, List.length_cons, List.length_nil, Nat.reduceAdd, Nat.reduceSub, List.replicate_succ, List.replicate_zero, List.cons_append, List.nil_append])
    ((repeat' (first | (apply WL.opN; exact yF; dsimp only [setD, z0, z1]) | refine WL.nil ?_ | refine WC.seqK fun Kx hK => ?_ | (refine hK _ _ ?_; clear hK) | refine WC.region ?_ | (apply WL.opG; (focus (first | exact wN | (apply SYG.yes; (exact wY); ((first | ((first | apply SY.move | apply SY.assign | apply SY.lss | apply SY.gtr) <;> (exact oD)) | (apply SY.pickT; (exact oD); (with_reducible rfl); (exact oD)) | (apply SY.pickF; (exact oD); (with_reducible rfl); (exact oD)) | fail); all_goals infer_instance)))); dsimp only [setD, z0, z1]) | ((first | refine WL.caseP rfl rfl rfl (fun h => ?_) (fun h => ?_) | refine WL.caseN rfl rfl rfl (fun h => ?_) (fun h => ?_) | refine WL.caseB rfl rfl rfl (fun h => ?_) (fun h => ?_)) <;> (first | (exfalso; first | omega | contradiction) | (dsimp only [z0, z1]))) | (apply WC.condT; (exact oD); (with_reducible rfl)) | (apply WC.condD; (exact oD); all_goals (intro h; try exact xD)) | refine WC.ret ?_ | refine ThenD.r ?_)); all_goals (first | ((repeat clear hK); (repeat clear Kx))))
    all_goals try (exfalso; first | contradiction | omega)
    all_goals (refine ⟨trivial, ⟨_, rfl, ?_⟩, _, rfl, ?_⟩ <;> exact fD)
  · rw [show partP n = ((ordP (2 ^ n.toNat - 1)).map intsB, 0) from if_neg h]
    obtain ⟨m, rfl⟩ : ∃ m : Nat, n = (m : Int) := ⟨n.toNat, by omega⟩
    rw [Int.toNat_natCast]
    have hm : m ≤ 5 := by omega
    have hpos := Nat.two_pow_pos m
    have hp : 2 ^ m ≤ 32 := Nat.pow_le_pow_right (n := 2) (by decide) hm
    have hshl := ishl_pow ⟨m, by omega⟩
    simp only at hshl
    have c1 := ordered29_c (2 ^ m - 1) (2 ^ m - 1) (Nat.le_refl _) (by omega)
    rw [show ((2 ^ m - 1 : Nat) : Int) = ((2 ^ m : Nat) : Int) - 1 by omega] at c1
    (refine Fn.intro2 Tryz.func15 rfl rfl ?_; simp only [Tryz.ntmps15, List.length_cons, List.length_nil, Nat.reduceAdd, Nat.reduceSub, List.replicate_succ, List.replicate_zero, List.cons_append, List.nil_append])
    ((repeat' (first | (apply WL.opN; exact yF; dsimp only [setD, z0, z1]) | refine WL.nil ?_ | refine WC.seqK fun Kx hK => ?_ | (refine hK _ _ ?_; clear hK) | refine WC.region ?_ | (apply WL.opG; (focus (first | exact wN | (apply SYG.yes; (exact wY); ((first | (exact SY.shlE hshl (by omega) OpD.i (OpD.t rfl)) | (apply SY.call (c1) Tryz.call62; (exact aD)) | ((first | apply SY.move | apply SY.assign | apply SY.lss | apply SY.gtr) <;> (exact oD)) | ((first | apply SY.sub) <;> first | exact oD | omega) | (apply SY.pickF; (exact oD); (with_reducible rfl); (exact oD)) | fail); all_goals infer_instance)))); dsimp only [setD, z0, z1]) | ((first | refine WL.caseP rfl rfl rfl (fun h => ?_) (fun h => ?_) | refine WL.caseN rfl rfl rfl (fun h => ?_) (fun h => ?_) | refine WL.caseB rfl rfl rfl (fun h => ?_) (fun h => ?_)) <;> (first | (exfalso; first | omega | contradiction) | (dsimp only [z0, z1]))) | (apply WC.condD; (exact oD); all_goals (intro h; try exact xD)) | refine WC.skip ?_ | refine WC.ret ?_)); all_goals (first | ((repeat clear hK); (repeat clear Kx))))
    all_goals try (exfalso; first | contradiction | omega)
    all_goals (refine ⟨trivial, ⟨_, rfl, ?_⟩, _, rfl, ?_⟩ <;> exact fD)
end Go.Proofs.YtgppfikidagfpaaGreatDoor
