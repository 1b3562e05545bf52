/- Part 35: walks by contracts, and plain laws. -/
import Derived.Test.YtgppfikidagfpaaGreatDoorVf34
set_option linter.unusedVariables false
set_option linter.unusedSimpArgs false
set_option linter.unusedSectionVars false
namespace Go.Proofs.YtgppfikidagfpaaGreatDoor
open Go.RowKit
set_option linter.unusedSimpArgs false

set_option maxHeartbeats 2000000
set_option maxRecDepth 100000
def exS : List Vx := [(0, 5), (1, 0)]
def exB : Cx := [[(0, 0), (1, 2)], [(0, 1), (1, 2)]]
theorem ex_part : partP 2 = ([[1, 2], [2, 1], [3]], 0) ∧ (partP 3).2 = 0 ∧ (partP 3).1.length = 13 ∧ (partP 4).2 = 0 ∧ (partP 4).1.length = 75 := by decide +kernel
theorem ex_fac : facetP exS [2, 1] = ([(0, 3), (1, 2)], 0) := by decide +kernel
theorem ex_sub : subP exS = (([[(0, 1), (1, 3)], [(0, 3), (1, 2)], [(0, 3), (1, 3)]], [(0, 1), (0, 3), (1, 2), (1, 3)], [[(0, 5)], exS, [(1, 0)], exS]), 0) := by decide +kernel
theorem itoa1 (n : Nat) (h : n < 10) : Lib.itoa (n : Int) = [UInt8.ofNat (48 + n)] := by rw [Lib.itoa_nonneg, Lib.decDigits_one h]
theorem ex_t1 : txS [(0, 5)] = [48, 47, 53, 32] := by
  show (((Lib.itoa ((0 : Nat) : Int) ++ [47]) ++ Lib.itoa ((5 : Nat) : Int)) ++ [32]) ++ [] = _
  rw [itoa1 0 (by decide), itoa1 5 (by decide)]
  rfl
theorem ex_t2 : txS [(1, 0)] = [49, 47, 48, 32] := by
  show (((Lib.itoa ((1 : Nat) : Int) ++ [47]) ++ Lib.itoa ((0 : Nat) : Int)) ++ [32]) ++ [] = _
  rw [itoa1 0 (by decide), itoa1 1 (by decide)]
  rfl
theorem ex_t3 : txS exS = [48, 47, 53, 32, 49, 47, 48, 32] := by
  have h : txS exS = txS [(0, 5)] ++ txS [(1, 0)] := by
    unfold txS exS
    simp
  rw [h, ex_t1, ex_t2]
  rfl
theorem ex_faces : facK [exS] = [[(0, 5)], [(1, 0)], exS] := by decide +kernel
theorem ex_num : numM [exS] = [([48, 47, 53, 32], 0), ([49, 47, 48, 32], 1), ([48, 47, 53, 32, 49, 47, 48, 32], 2)] := by
  unfold numM
  rw [ex_faces]
  simp only [List.foldl_cons, List.foldl_nil]
  unfold numS
  rw [ex_t1, ex_t2, ex_t3]
  decide +kernel
theorem ex_ords : ordS 3 = [[1, 2], [2, 1]] := by decide +kernel
theorem ex_at : atB exS (orB [1, 2] 1) = [(0, 5)] ∧ atB exS (orB [1, 2] 2) = exS ∧ atB exS (orB [2, 1] 1) = [(1, 0)] ∧ atB exS (orB [2, 1] 2) = exS := by decide +kernel
theorem ex_bx : barX (numM [exS]) exS [1, 2] 0 = (0, 0) ∧ barX (numM [exS]) exS [1, 2] 1 = (1, 2) ∧ barX (numM [exS]) exS [2, 1] 0 = (0, 1) ∧ barX (numM [exS]) exS [2, 1] 1 = (1, 2) := by
  obtain ⟨a1, a2, a3, a4⟩ := ex_at
  unfold barX numF
  rw [a1, a2, a3, a4, ex_t1, ex_t2, ex_t3, ex_num]
  decide +kernel
theorem ex_bar : barF (numM [exS]) [exS] = exB := by
  obtain ⟨b1, b2, b3, b4⟩ := ex_bx
  unfold barF
  rw [List.flatMap_cons, List.flatMap_nil, List.append_nil, show 2 ^ exS.length - 1 = 3 from rfl, ex_ords]
  simp only [List.map_cons, List.map_nil]
  unfold barV
  show [[barX _ exS [1, 2] 0, barX _ exS [1, 2] 1], [barX _ exS [2, 1] 0, barX _ exS [2, 1] 1]] = exB
  rw [b1, b2, b3, b4]
  rfl
def exK (v : Vx) : List Vx := if v = (0, 0) then [(0, 5)] else if v = (0, 1) then [(1, 0)] else if v = (1, 2) then exS else []
theorem exK_len (v : Vx) : (exK v).length ≤ 1000 := by
  unfold exK
  split
  · simp
  · split
    · simp
    · split
      · unfold exS; simp
      · simp
theorem baryX_p : CallC Tryz.prog 36 ([dS Cpx [exS]] ++ ([] : List Value).map dX) [] (fun d hp2 => ∃ B : Sb, d = dT [dS SubR (exB, B.2.1, B.2.2), dI 0] ∧ hp2 = []) := by
  have hb := ex_bar
  refine (bary29_p [exS] exB exK (by decide) (by decide +kernel) (by decide +kernel) ?_ (by decide +kernel) (by decide +kernel) (by rw [hb]; decide) (by rw [hb]; decide) ?_ exK_len (by rw [hb]; decide +kernel)).monoK fun d hp2 ⟨h1, h2⟩ => ⟨([], _, _), h1, h2⟩
  · intro s hs v hv
    cases List.mem_singleton.1 hs
    unfold exS at hv
    simp only [List.mem_cons, List.not_mem_nil, or_false] at hv
    rcases hv with rfl | rfl <;> decide
  · intro s hs bl hbl k hk
    cases List.mem_singleton.1 hs
    rw [show 2 ^ exS.length - 1 = 3 from rfl, ex_ords] at hbl
    obtain ⟨b1, b2, b3, b4⟩ := ex_bx
    obtain ⟨a1, a2, a3, a4⟩ := ex_at
    have hok : ∀ a b : Fin 8, okV (((a.val : Nat) : Int), ((b.val : Nat) : Int)) := fun a b => by
      unfold okV is64
      have := a.2; have := b.2
      simp only
      omega
    simp only [List.mem_cons, List.not_mem_nil, or_false] at hbl
    rcases hbl with rfl | rfl
    · have : k = 0 ∨ k = 1 := by simp at hk; omega
      rcases this with rfl | rfl
      · rw [b1, a1]; exact ⟨hok 0 0, by decide⟩
      · rw [b2, a2]; exact ⟨hok 1 2, by decide⟩
    · have : k = 0 ∨ k = 1 := by simp at hk; omega
      rcases this with rfl | rfl
      · rw [b3, a3]; exact ⟨hok 0 1, by decide⟩
      · rw [b4, a4]; exact ⟨hok 1 2, by decide⟩
theorem v29_p (c n : Int) : Fn Tryz.prog 58 [dI c, dI n] (dS RV (c, n)) := by
  refine Fn.introC1 tyV Tryz.func58 rfl rfl ?_
  simp only [Tryz.ntmps58, List.length_cons, List.length_nil, Nat.reduceAdd, Nat.reduceSub, List.replicate_succ, List.replicate_zero, List.cons_append, List.nil_append]
  ((repeat' (first | (apply WL.opN; exact yF; dsimp only [setD, z0, z1]) | refine WL.nil ?_ | refine WC.seqK fun Kx hK => ?_ | (refine hK _ _ ?_; clear hK) | refine WC.region ?_ | (apply WL.alloc; (first | exact tzV | exact tzC); (first | exact shape_X rfl | exact shape_XV | exact shape_C0 rfl); (intro _; dsimp only [setD, z0, z1])) | (apply WL.storeF; (exact tD); rfl; (exact oD); (exact hD); dsimp only [setD, z0, z1]) | (apply WL.opN; (focus ((first | (first | (apply SY.mkV0 vxT <;> (exact oD)) | (apply SY.mkV1 vxT <;> (exact oD)) | (apply SY.mkV vxT <;> (exact oD))) | fail); all_goals infer_instance)); dsimp only [setD, z0, z1]) | refine WC.ret ?_)); all_goals (first | ((repeat clear hK); (repeat clear Kx))))
  (refine ⟨trivial, _, rfl, ?_⟩; exact fD)
theorem sameI_c (l : List Int) : Fn Tryz.prog 73 [dS Ints l, dS Ints l] (dB true) := by
  (refine Fn.intro1 Tryz.func73 rfl rfl ?_; simp only [Tryz.ntmps73, List.length_cons, List.length_nil, Nat.reduceAdd, Nat.reduceSub, List.replicate_succ, List.replicate_zero, List.cons_append, List.nil_append])
  (first | refine WC.know (t := 0) rfl le_K fun hl0 => ?_ | refine WC.know (t := 0) rfl le_A fun hl0 => ?_ | refine WC.know (t := 0) rfl le_C fun hl0 => ?_); simp only [maxLen] at hl0
  (repeat' (first | ((first | apply WL.opN | apply WD.opN); exact yF; dsimp only [setD, z0, z1]) | refine WL.nil ?_ | refine WC.seqK fun Kx hK => ?_ | (refine hK _ _ ?_; clear hK) | refine WC.region ?_ | ((first | apply WL.opN | apply WD.opN); (focus ((first | ((first | apply SY.move | apply SY.assign | apply SY.lss | apply SY.neq) <;> (exact oD)) | (apply SY.len; (exact oD); (exact nD); (exact uD)) | fail); all_goals infer_instance)); dsimp only [setD, z0, z1]) | (apply WC.condN; (exact oD); all_goals (intro h; try exact xD)) | refine WC.skip ?_ | refine WC.block ?_))
  (refine WC.loopU (X := Nat) (fun k => [(5, dI (k : Int)), (4, dA), (11, dA), (12, dA), (13, dA), (14, dA), (15, dA), (16, dA), (17, dA), (18, dA), (19, dA), (20, dA), (21, dA), (22, dA), (23, dA), (24, dA), (25, dA)]) (fun k => []) (fun k => l.length - k) (fun k => k ≤ l.length) 0 ?start ?frame0 ?objs0 ?round)
  case start => exact Nat.zero_le _
  case frame0 => ((try dsimp only [upds, z0, z1]); repeat (first | exact LeF.nil | refine LeF.co (k := ?_)))
  case objs0 => rfl
  case round =>
    rintro k h1
    dsimp only [upds, z0, z1]
    by_cases hk : k < l.length
    · ((repeat' (first | ((first | apply WL.opN | apply WD.opN); exact yF; dsimp only [setD, z0, z1]) | refine WL.nil ?_ | refine WD.nil ?_ | refine WC.seqK fun Kx hK => ?_ | (refine hK _ _ ?_; clear hK) | refine WC.region ?_ | (apply WC.draw; kernel_rfl; kernel_rfl) | ((first | apply WL.opN | apply WD.opN); (focus ((first | ((first | apply SY.move | apply SY.assign | apply SY.lss | apply SY.neq) <;> (exact oD)) | ((first | apply SY.add) <;> first | exact oD | omega) | (apply SY.len; (exact oD); (exact nD); (exact uD)) | (apply SY.ix; (exact eD); (exact oD); (exact oD); exact kD) | fail); all_goals infer_instance)); dsimp only [setD, z0, z1]) | (apply WC.condD; (exact oD); all_goals (intro h; try exact xD)) | (apply WC.condN; (exact oD); all_goals (intro h; try exact xD)) | refine WC.skip ?_ | refine WC.block ?_ | refine ThenD.n ?_)); all_goals (first | ((repeat clear hK); (repeat clear Kx))))
      all_goals first
        | (exfalso; omega)
        | ((refine ⟨k + 1, ?_, by first | omega | (simp only; omega), rfl, ?_⟩; rotate_left; ((try dsimp only [upds, z0, z1]); repeat (first | exact LeF.nil | refine LeF.co (k := ?_))); (try dsimp only)); omega)
    · ((repeat' (first | ((first | apply WL.opN | apply WD.opN); exact yF; dsimp only [setD, z0, z1]) | refine WL.nil ?_ | refine WC.seqK fun Kx hK => ?_ | (refine hK _ _ ?_; clear hK) | (refine Kont.skip ?_; clear hK) | refine WC.region ?_ | ((first | apply WL.opN | apply WD.opN); (focus ((first | ((first | apply SY.move | apply SY.assign | apply SY.lss | apply SY.neq) <;> (exact oD)) | (apply SY.len; (exact oD); (exact nD); (exact uD)) | fail); all_goals infer_instance)); dsimp only [setD, z0, z1]) | (apply WC.condD; (exact oD); all_goals (intro h; try exact xD)) | refine WC.ret ?_ | refine WC.exit ?_)); all_goals (first | ((repeat clear hK); (repeat clear Kx))))
      all_goals first
        | (exfalso; omega)
        | (refine ⟨trivial, _, rfl, ?_⟩; exact fD)
theorem sameB_c (l : List (List Int)) : Fn Tryz.prog 20 [dS Rows l, dS Rows l] (dB true) := by
  (refine Fn.intro1 Tryz.func20 rfl rfl ?_; simp only [Tryz.ntmps20, List.length_cons, List.length_nil, Nat.reduceAdd, Nat.reduceSub, List.replicate_succ, List.replicate_zero, List.cons_append, List.nil_append])
  (first | refine WC.know (t := 0) rfl le_K fun hl0 => ?_ | refine WC.know (t := 0) rfl le_A fun hl0 => ?_ | refine WC.know (t := 0) rfl le_C fun hl0 => ?_); simp only [maxLen] at hl0
  (repeat' (first | ((first | apply WL.opN | apply WD.opN); exact yF; dsimp only [setD, z0, z1]) | refine WL.nil ?_ | refine WC.seqK fun Kx hK => ?_ | (refine hK _ _ ?_; clear hK) | refine WC.region ?_ | ((first | apply WL.opN | apply WD.opN); (focus ((first | (apply SY.len; exact OpD.t rfl; exact len_A; exact elRo.unt) | ((first | apply SY.move | apply SY.assign | apply SY.lss | apply SY.neq | apply SY.not) <;> (exact oD)) | fail); all_goals infer_instance)); dsimp only [setD, z0, z1]) | (apply WC.condN; (exact oD); all_goals (intro h; try exact xD)) | refine WC.skip ?_ | refine WC.block ?_))
  all_goals try (exfalso; omega)
  (refine WC.loopU (X := Nat) (fun k => [(5, dI (k : Int)), (4, dA), (11, dA), (12, dA), (13, dA), (14, dA), (15, dA), (16, dA), (17, dA), (18, dA), (19, dA), (20, dA), (21, dA), (22, dA), (23, dA), (24, dA), (25, dA), (26, dA)]) (fun k => []) (fun k => l.length - k) (fun k => k ≤ l.length) 0 ?start ?frame0 ?objs0 ?round)
  case start => exact Nat.zero_le _
  case frame0 => ((try dsimp only [upds, z0, z1]); repeat (first | exact LeF.nil | refine LeF.co (k := ?_)))
  case objs0 => rfl
  case round =>
    rintro k h1
    dsimp only [upds, z0, z1]
    by_cases hk : k < l.length
    · ((repeat' (first | ((first | apply WL.opN | apply WD.opN); exact yF; dsimp only [setD, z0, z1]) | refine WL.nil ?_ | refine WD.nil ?_ | refine WC.seqK fun Kx hK => ?_ | (refine hK _ _ ?_; clear hK) | refine WC.region ?_ | (apply WC.draw; kernel_rfl; kernel_rfl) | ((first | apply WL.opN | apply WD.opN); (focus ((first | (apply SY.len; exact OpD.t rfl; exact len_A; exact elRo.unt) | (refine SY.ix (R := Ints) (_gR := inferInstance) elRo (OpD.t rfl) (OpD.t rfl) hk) | (apply SY.load; exact tyIn; exact OpD.t rfl) | (apply SY.call (sameI_c l[k]) Tryz.call73; (exact aD)) | (exact SY.notT (OpD.t rfl)) | ((first | apply SY.move | apply SY.assign | apply SY.lss | apply SY.neq | apply SY.not) <;> (exact oD)) | ((first | apply SY.add) <;> first | exact oD | omega) | fail); all_goals infer_instance)); dsimp only [setD, z0, z1]) | (apply WC.condF; (exact oD); (with_reducible rfl)) | (apply WC.condD; (exact oD); all_goals (intro h; try exact xD)) | refine WC.skip ?_ | refine WC.block ?_ | refine ThenD.n ?_)); all_goals (first | ((repeat clear hK); (repeat clear Kx))))
      all_goals first
        | (exfalso; omega)
        | ((refine ⟨k + 1, ?_, by first | omega | (simp only; omega), rfl, ?_⟩; rotate_left; ((try dsimp only [upds, z0, z1]); repeat (first | exact LeF.nil | refine LeF.co (k := ?_))); (try dsimp only)); omega)
    · ((repeat' (first | ((first | apply WL.opN | apply WD.opN); exact yF; dsimp only [setD, z0, z1]) | refine WL.nil ?_ | refine WC.seqK fun Kx hK => ?_ | (refine hK _ _ ?_; clear hK) | (refine Kont.skip ?_; clear hK) | refine WC.region ?_ | ((first | apply WL.opN | apply WD.opN); (focus ((first | (apply SY.len; exact OpD.t rfl; exact len_A; exact elRo.unt) | ((first | apply SY.move | apply SY.assign | apply SY.lss | apply SY.neq | apply SY.not) <;> (exact oD)) | fail); all_goals infer_instance)); dsimp only [setD, z0, z1]) | (apply WC.condD; (exact oD); all_goals (intro h; try exact xD)) | refine WC.ret ?_ | refine WC.exit ?_)); all_goals (first | ((repeat clear hK); (repeat clear Kx))))
      all_goals first
        | (exfalso; omega)
        | (refine ⟨trivial, _, rfl, ?_⟩; exact fD)
end Go.Proofs.YtgppfikidagfpaaGreatDoor
namespace Go.Proofs.YtgppfikidagfpaaGreatDoor
open Go.RowKit
section
variable {P : Program} {ops : Array Oper} {hp : List HObj} {fr : List Dat} {dst : Option Tmp} {ty : TypeId} {ps : String} {af : Array Edge} {g : Option (Nat × Bool)} {T T2 : TypeId}
theorem SY.neqF {p q : Int} {x y : Operand} (h : p = q) (hx : OpD fr x (dI p)) (hy : OpD fr y (dI q)) : SY P ops hp { dst := dst, op := .binOp .neq T x y T2, type := ty, pos := ps, after := af, guard := g } fr (dB false) := by
  have := SY.neq (P := P) (ops := ops) (hp := hp) (dst := dst) (ty := ty) (ps := ps) (af := af) (g := g) (T := T) (T2 := T2) hx hy
  rwa [decide_eq_true h] at this
theorem SY.eqlT {p q : Int} {x y : Operand} (h : p = q) (hx : OpD fr x (dI p)) (hy : OpD fr y (dI q)) : SY P ops hp { dst := dst, op := .binOp .eql T x y T2, type := ty, pos := ps, after := af, guard := g } fr (dB true) := by
  have := SY.eql (P := P) (ops := ops) (hp := hp) (dst := dst) (ty := ty) (ps := ps) (af := af) (g := g) (T := T) (T2 := T2) hx hy
  rwa [decide_eq_true h] at this
theorem SY.add00 {x y : Operand} (hx : OpD fr x (dI 0)) (hy : OpD fr y (dI 0)) : SY P ops hp { dst := dst, op := .binOp .add T x y T2, type := ty, pos := ps, after := af, guard := g } fr (dI 0) := SY.add hx hy (by omega)
end
set_option linter.unusedSimpArgs false

set_option maxHeartbeats 2000000
set_option maxRecDepth 100000
set_option maxHeartbeats 16000000 in
theorem awake29_p : Fn Tryz.prog 13 [] (dB true) := by
  obtain ⟨x1, x2, x3, x4, x5⟩ := ex_part
  have c1 := partitions_p 2
  rw [x1] at c1
  have c2 := partitions_p 3
  rw [x2] at c2
  have c3 := partitions_p 4
  rw [x4] at c3
  generalize (partP 3).1 = l3 at *
  generalize (partP 4).1 = l4 at *
  have c4 : Fn Tryz.prog 16 [dS Verts [(0, 5), (1, 0)], dS Ints [2, 1]] (dT [dS Verts [(0, 3), (1, 2)], dI 0]) := by
    have := facetP_p exS [2, 1]
    rw [ex_fac] at this
    exact this
  have c5 : Fn Tryz.prog 18 [dS Verts [(0, 5), (1, 0)]] (dT [dS SubR ([[(0, 1), (1, 3)], [(0, 3), (1, 2)], [(0, 3), (1, 3)]], [(0, 1), (0, 3), (1, 2), (1, 3)], [[(0, 5)], [(0, 5), (1, 0)], [(1, 0)], [(0, 5), (1, 0)]]), dI 0]) := by
    have := simplex29_p exS
    rw [ex_sub] at this
    exact this
  have c6 : CallC Tryz.prog 36 ([dS Cpx [[(0, 5), (1, 0)]]] ++ ([] : List Value).map dX) [] (fun d hp2 => ∃ B : Sb, d = dT [dS SubR ([[(0, 0), (1, 2)], [(0, 1), (1, 2)]], B.2.1, B.2.2), dI 0] ∧ hp2 = []) := baryX_p
  have s : ∀ l : Cx, Fn Tryz.prog 59 [dS Simps l, dS Simps l] (dB true) := fun l => by
    have := sameAll_c l l
    rwa [decide_eq_true rfl] at this
  have s1 : ∀ l : List Vx, Fn Tryz.prog 21 [dS Verts l, dS Verts l] (dB true) := fun l => by
    have := same_c l l
    rwa [decide_eq_true (cmpL_eq.2 rfl)] at this
  refine Fn.intro1 Tryz.func13 rfl rfl ?_
  show WC _ _ _ (List.replicate 137 (dX undef)) []
  simp only [List.replicate_succ, List.replicate_zero]
  ((repeat' (first | ((first | apply WL.opN | apply WD.opN); exact yF; dsimp only [setD, z0, z1]) | refine WL.nil ?_ | refine WD.nil ?_ | refine WC.seqK fun Kx hK => ?_ | (refine hK _ _ ?_; clear hK) | refine WC.region ?_ | (apply WC.draw; kernel_rfl; kernel_rfl) |  (refine WL.allocS (zs := [.slice none 0 0, .slice none 0 0, .slice none 0 0]) tzSb (by decide) (by simp [Value.oneCell']) fun b6 => ?_; dsimp only [setD, z0, z1, List.map_cons, List.map_nil]) |  (refine WL.storeW tySb (OpD.t rfl) (OpD.tle rfl R3_agg) rfl rfl ?_; dsimp only [setD, z0, z1]) |  (refine WL.callC (hp1 := []) (caps := []) c6 Tryz.call36 OpD.f (by (exact aD)) ?_; rintro d' hp2 ⟨B, rfl, rfl⟩; dsimp only [setD, z0, z1, List.cons_append, List.nil_append]) | ((first | apply WL.opG | apply WD.op); (focus (first | exact wN | (apply SYG.yes; (exact wY); ((first | (apply SY.call (v29_p _ _) Tryz.call58; (exact aD)) | (apply SY.call c1 Tryz.call14; exact ArgsD.cons OpD.i ArgsD.nil) | (apply SY.call c2 Tryz.call14; exact ArgsD.cons OpD.i ArgsD.nil) | (apply SY.call c3 Tryz.call14; exact ArgsD.cons OpD.i ArgsD.nil) | (apply SY.call (c4) Tryz.call16; exact ArgsD.cons (OpD.t rfl) (ArgsD.cons (OpD.t rfl) (ArgsD.nil))) | (apply SY.call (c5) Tryz.call18; exact ArgsD.cons (OpD.t rfl) (ArgsD.nil)) | (apply SY.call (sameB_c _) Tryz.call20; (exact aD)) | (apply SY.call (s1 _) Tryz.call21; (exact aD)) | (apply SY.call (s _) Tryz.call59; (exact aD)) | (refine SY.fldS strSb (OpD.t rfl) (by decide)) | (apply SY.fldX cpxT; exact OpD.t rfl) | (refine SY.loadS tySS (OpD.t rfl) (.head _) rfl) | (refine SY.loadS tySi (OpD.t rfl) (.head _) rfl) | (apply SY.len; exact OpD.t rfl; exact len_A; exact elRo.unt) | (exact SY.build1' (R := Ints) (_gR := inferInstance) (els := [[1, 2], [2, 1], [3]]) elRo (ElsD.cn (OpD.t rfl) (ElsD.cn (OpD.t rfl) (ElsD.cn (OpD.t rfl) ElsD.nl))) rfl rfl (fun _ => shape_A) (Nat.le_of_ble_eq_true rfl)) | (exact SY.add00 (OpD.t rfl) (OpD.t rfl)) | (exact SY.neqF (p := 0) (q := 0) rfl (OpD.t rfl) OpD.i) | (exact SY.eqlT (p := 0) (q := 0) rfl (OpD.t rfl) OpD.i) | (exact SY.eqlT (p := ((l3.length : Nat) : Int)) (q := 13) (x3 ▸ rfl) (OpD.t rfl) OpD.i) | (exact SY.eqlT (p := ((l4.length : Nat) : Int)) (q := 75) (x5 ▸ rfl) (OpD.t rfl) OpD.i) | (exact SY.notT (OpD.t rfl)) | ((first | apply SY.move | apply SY.assign | apply SY.eql | apply SY.neq | apply SY.not) <;> (exact oD)) | (apply SY.mkC cpxT; exact OpD.t rfl) | (apply SY.buildE; (exact eD); ((try simp only [List.map_cons, List.map_nil]); (repeat (first | exact ElsD.nl | (apply ElsD.cn; (first | exact OpD.t rfl | exact OpD.i | exact OpD.b | exact OpD.tle rfl (by first | exact Dat.le_nil | exact Dat.le_nilK (by decide)) | exact ⟨Dat.le_nil⟩ | exact ⟨Dat.le_nilK (by decide)⟩))))); rfl; rfl; decide; (intro _; exact shape_V); (exact (by simp))) | (apply SY.build1'; (exact eD); ((try simp only [List.map_cons, List.map_nil]); (repeat (first | exact ElsD.nl | (apply ElsD.cn; (first | exact OpD.t rfl | exact OpD.i | exact OpD.b | exact OpD.tle rfl (by first | exact Dat.le_nil | exact Dat.le_nilK (by decide)) | exact ⟨Dat.le_nil⟩ | exact ⟨Dat.le_nilK (by decide)⟩))))); rfl; rfl; (intro _; first | exact shape_K | exact shape_I | exact shape_A | exact shape_B); (exact (by simp))) | (apply SY.pickT; (exact oD); (with_reducible rfl); (exact oD)) | (apply SY.pickF; (exact oD); (with_reducible rfl); (exact oD)) | (apply SY.extract; (exact oD); rfl) | fail); all_goals infer_instance)))); dsimp only [setD, z0, z1]) | (apply WC.condF; (exact oD); (with_reducible rfl)) | refine WC.skip ?_ | refine WC.ret ?_)); all_goals (first | ((repeat clear hK); (repeat clear Kx))))
  all_goals try (exfalso; first | contradiction | omega)
  (refine ⟨trivial, _, rfl, ?_⟩; exact fD)
end Go.Proofs.YtgppfikidagfpaaGreatDoor
namespace Go.Proofs.YtgppfikidagfpaaGreatDoor
section
variable {s : List Vx}
def GoodS (s : List Vx) : Prop := chkV s = 0 ∧ diffV s = true ∧ s.length ≤ 4
theorem GoodS.len (h : GoodS s) : 1 ≤ s.length := by have := chkV_zero.1 h.1; omega
theorem place_get {bl : List Nat} {i : Nat} (h : i < (placeB s bl).length) (h' : i < s.length) : (placeB s bl)[i] = (s[i].1, ((snapB bl i 0 : Nat) : Int)) := by simp [placeB]
theorem mem_fac (h : GoodS s) {p : List Vx} : p ∈ maxC (facB s) ↔ p ∈ facB s := by
  rw [← put_max (F := facB s) (d := s.length) (fun t ht => facB_len ht) h.len, foldPut_mem]
  simp
theorem lab_get {n i : Nat} {bl : List Nat} (h : i < n) : (labB n bl).getD i 0 = snapB bl i 0 := by
  unfold labB
  rw [List.getD_eq_getElem?_getD, List.getElem?_map, List.getElem?_range h]
  rfl
theorem fac_at (h : GoodS s) {bl : List Nat} (hb : bl ∈ ordP (2 ^ s.length - 1)) {i k : Nat} (hi : i < s.length) (hk : k < s.length) :
    bitB (snapB bl i 0) i = true ∧ (1 ≤ snapB bl i 0 ∧ snapB bl i 0 < 2 ^ s.length) ∧ (snapB bl i 0 &&& snapB bl k 0 = snapB bl i 0 ∨ snapB bl k 0 &&& snapB bl i 0 = snapB bl k 0) ∧
      (bitB (snapB bl k 0) i = true → snapB bl i 0 &&& snapB bl k 0 = snapB bl i 0) ∧ (i < k → bitB (snapB bl i 0) k = true ∨ bitB (snapB bl k 0) i = true) := by
  have hg := List.all_eq_true.1 (snap_good s.length h.len h.2.2) bl hb
  have h1 := List.all_eq_true.1 hg i (List.mem_range.2 hi)
  rw [lab_get hi] at h1
  simp only [Bool.and_eq_true] at h1
  obtain ⟨⟨⟨a1, a2⟩, a3⟩, a4⟩ := h1
  have h2 := List.all_eq_true.1 a4 k (List.mem_range.2 hk)
  rw [lab_get hk] at h2
  simp only [Bool.and_eq_true, Bool.or_eq_true, decide_eq_true_eq, Bool.not_eq_true', decide_eq_false_iff_not] at h2
  obtain ⟨⟨b1, b2⟩, b3⟩ := h2
  refine ⟨a1, ⟨of_decide_eq_true a2, of_decide_eq_true a3⟩, b1, fun hh => ?_, fun hlt => ?_⟩
  · rcases b2 with b2 | b2
    · rw [b2] at hh; cases hh
    · exact b2
  · rcases b3 with (b3 | b3) | b3
    · exact absurd hlt b3
    · exact .inl b3
    · exact .inr b3
end
end Go.Proofs.YtgppfikidagfpaaGreatDoor
namespace Go.Proofs.YtgppfikidagfpaaGreatDoor
open Go.RowKit
section
variable {P : Program} {ops : Array Oper} {hp : List HObj} {fr : List Dat} {d e : Dat} {dst : Option Tmp} {ty : TypeId} {ps : String} {af : Array Edge} {g : Option (Nat × Bool)} {T T1 T2 : TypeId} {x y : Operand}
theorem SY.fldD {n : Nat} (S : StrT P T n) (hn : 0 < n) (hx : OpD fr x (dP 1 false d)) : SY P ops hp { dst := dst, op := .fieldAddr T x 0, type := ty, pos := ps, after := af, guard := g } fr (dP 1 false d) := SY.val fun {I w a} ho => by
  obtain ⟨b, off, u, h1, h2, h3⟩ := hx.get (by simp [Op.operands]) ho
  refine ⟨.pointer (some ⟨b, off, none⟩), ?_, b, off, u, rfl, h2, h3⟩
  unfold execOp
  simp only [h1, Sem.run_bind, S.fld b off 0 w hn, Result.andThen_ok, Sem.run_pure]
  rfl
theorem SY.ixE {i : Operand} {t e : TypeId} {z : Value} {bytes n : Nat} {ag : Bool} (E : ElT P t e n z bytes ag) {α : Type} {R : Rel α} {_gR : Good R} {xs : List α} {k : Nat} {v : α} (hk : k < xs.length) (hv : xs[k] = v) (hx : OpD fr x (dS (ArrK n R) xs)) (hi : OpD fr i (dI (k : Int))) : SY P ops hp { dst := dst, op := .indexAddr t x i, type := ty, pos := ps, after := af, guard := g } fr (dP n true (dS R v)) := hv ▸ SY.ixK E hx hi hk
end
set_option linter.unusedSimpArgs false

set_option maxHeartbeats 2000000
set_option maxRecDepth 100000
theorem strCx : StrT Tryz.prog 39 1 := ⟨fun b off i w hi => by
  have : i = 0 := by omega
  subst this
  go_simp⟩
def gd29 (s : List Vx) : Bool := decide (chkV s = 0 ∧ diffV s = true ∧ s.length ≤ 4)
theorem good29_p (s : List Vx) : Fn Tryz.prog 23 [dS Verts s] (dB (gd29 s)) := by
  have c1 := chk_c s
  have c2 := diff_c s
  unfold gd29
  by_cases h0 : chkV s = 0
  · by_cases h1 : diffV s = true
    · rw [h1] at c2
      by_cases h2 : s.length ≤ 4
      · rw [decide_eq_true ⟨h0, h1, h2⟩]
        (refine Fn.intro1 Tryz.func23 rfl rfl ?_; simp only [Tryz.ntmps23, List.length_cons, List.length_nil, Nat.reduceAdd, Nat.reduceSub, List.replicate_succ, List.replicate_zero, List.cons_append, List.nil_append])
        ((repeat' (first | (apply WL.opN; exact yF; dsimp only [setD, z0, z1]) | refine WL.nil ?_ | refine WC.seqK fun Kx hK => ?_ | (refine hK _ _ ?_; clear hK) | (refine Kont.skip ?_; clear hK) | refine WC.region ?_ | (apply WL.opG; (focus (first | exact wN | (apply SYG.yes; (exact wY); ((first | (apply SY.call (c1) Tryz.call12; (exact aD)) | (apply SY.call (c2) Tryz.call66; (exact aD)) | ((first | apply SY.move | apply SY.assign | apply SY.leq | apply SY.eql) <;> (exact oD)) | (apply SY.len; (exact oD); (exact nD); (exact uD)) | (apply SY.lenRK; exact OpD.t rfl; (first | exact .head _ | exact .tail _ (.head _)); (exact uD)) | (apply SY.lenR; exact OpD.t rfl; (first | exact .head _ | exact .tail _ (.head _)); (exact uD)) | (first | (apply SY.eqlV vxT <;> (exact oD))) | (apply SY.eqlB; (exact oD); (exact oD); exact eqBB) | (apply SY.pickT; (exact oD); (with_reducible rfl); (exact oD)) | (apply SY.pickF; (exact oD); (with_reducible rfl); (exact oD)) | fail); all_goals infer_instance)))); dsimp only [setD, z0, z1]) | ((first | refine WL.caseP rfl rfl rfl (fun h => ?_) (fun h => ?_) | refine WL.caseN rfl rfl rfl (fun h => ?_) (fun h => ?_) | refine WL.caseB rfl rfl rfl (fun h => ?_) (fun h => ?_)) <;> (first | (exfalso; first | omega | contradiction) | (dsimp only [z0, z1]))) | refine WC.skip ?_ | refine WC.ret ?_ | refine ThenD.n ?_ | refine ThenD.r ?_)); all_goals (first | refine WC.id ?_ | refine WL.id ?_ | ((repeat clear hK); (repeat clear Kx))))
        all_goals try (exfalso; first | contradiction | omega)
        (refine ⟨trivial, _, rfl, ?_⟩; (first | exact fD | refine FinD.i ?_ | refine FinD.b ?_ | refine FinD.rowKE (.head _) ?_ | refine FinD.rowE (.head _) ?_ | refine FinD.nilKE (by decide) ?_ | refine FinD.nilE ?_ | refine FinD.s ?_))
        simp; omega
      · rw [decide_eq_false (fun q => h2 q.2.2)]
        (refine Fn.intro1 Tryz.func23 rfl rfl ?_; simp only [Tryz.ntmps23, List.length_cons, List.length_nil, Nat.reduceAdd, Nat.reduceSub, List.replicate_succ, List.replicate_zero, List.cons_append, List.nil_append])
        ((repeat' (first | (apply WL.opN; exact yF; dsimp only [setD, z0, z1]) | refine WL.nil ?_ | refine WC.seqK fun Kx hK => ?_ | (refine hK _ _ ?_; clear hK) | (refine Kont.skip ?_; clear hK) | refine WC.region ?_ | (apply WL.opG; (focus (first | exact wN | (apply SYG.yes; (exact wY); ((first | (apply SY.call (c1) Tryz.call12; (exact aD)) | (apply SY.call (c2) Tryz.call66; (exact aD)) | ((first | apply SY.move | apply SY.assign | apply SY.leq | apply SY.eql) <;> (exact oD)) | (apply SY.len; (exact oD); (exact nD); (exact uD)) | (apply SY.lenRK; exact OpD.t rfl; (first | exact .head _ | exact .tail _ (.head _)); (exact uD)) | (apply SY.lenR; exact OpD.t rfl; (first | exact .head _ | exact .tail _ (.head _)); (exact uD)) | (first | (apply SY.eqlV vxT <;> (exact oD))) | (apply SY.eqlB; (exact oD); (exact oD); exact eqBB) | (apply SY.pickT; (exact oD); (with_reducible rfl); (exact oD)) | (apply SY.pickF; (exact oD); (with_reducible rfl); (exact oD)) | fail); all_goals infer_instance)))); dsimp only [setD, z0, z1]) | ((first | refine WL.caseP rfl rfl rfl (fun h => ?_) (fun h => ?_) | refine WL.caseN rfl rfl rfl (fun h => ?_) (fun h => ?_) | refine WL.caseB rfl rfl rfl (fun h => ?_) (fun h => ?_)) <;> (first | (exfalso; first | omega | contradiction) | (dsimp only [z0, z1]))) | refine WC.skip ?_ | refine WC.ret ?_ | refine ThenD.n ?_ | refine ThenD.r ?_)); all_goals (first | refine WC.id ?_ | refine WL.id ?_ | ((repeat clear hK); (repeat clear Kx))))
        all_goals try (exfalso; first | contradiction | omega)
        (refine ⟨trivial, _, rfl, ?_⟩; (first | exact fD | refine FinD.i ?_ | refine FinD.b ?_ | refine FinD.rowKE (.head _) ?_ | refine FinD.rowE (.head _) ?_ | refine FinD.nilKE (by decide) ?_ | refine FinD.nilE ?_ | refine FinD.s ?_))
        simp; omega
    · have h1 : diffV s = false := by simpa using h1
      rw [h1] at c2
      rw [decide_eq_false (fun q => by rw [h1] at q; cases q.2.1)]
      (refine Fn.intro1 Tryz.func23 rfl rfl ?_; simp only [Tryz.ntmps23, List.length_cons, List.length_nil, Nat.reduceAdd, Nat.reduceSub, List.replicate_succ, List.replicate_zero, List.cons_append, List.nil_append])
      ((repeat' (first | (apply WL.opN; exact yF; dsimp only [setD, z0, z1]) | refine WL.nil ?_ | refine WC.seqK fun Kx hK => ?_ | (refine hK _ _ ?_; clear hK) | (refine Kont.skip ?_; clear hK) | refine WC.region ?_ | (apply WL.opG; (focus (first | exact wN | (apply SYG.yes; (exact wY); ((first | (apply SY.call (c1) Tryz.call12; (exact aD)) | (apply SY.call (c2) Tryz.call66; (exact aD)) | ((first | apply SY.move | apply SY.assign | apply SY.leq | apply SY.eql) <;> (exact oD)) | (apply SY.len; (exact oD); (exact nD); (exact uD)) | (apply SY.lenRK; exact OpD.t rfl; (first | exact .head _ | exact .tail _ (.head _)); (exact uD)) | (apply SY.lenR; exact OpD.t rfl; (first | exact .head _ | exact .tail _ (.head _)); (exact uD)) | (first | (apply SY.eqlV vxT <;> (exact oD))) | (apply SY.eqlB; (exact oD); (exact oD); exact eqBB) | (apply SY.pickT; (exact oD); (with_reducible rfl); (exact oD)) | (apply SY.pickF; (exact oD); (with_reducible rfl); (exact oD)) | fail); all_goals infer_instance)))); dsimp only [setD, z0, z1]) | ((first | refine WL.caseP rfl rfl rfl (fun h => ?_) (fun h => ?_) | refine WL.caseN rfl rfl rfl (fun h => ?_) (fun h => ?_) | refine WL.caseB rfl rfl rfl (fun h => ?_) (fun h => ?_)) <;> (first | (exfalso; first | omega | contradiction) | (dsimp only [z0, z1]))) | refine WC.skip ?_ | refine WC.ret ?_ | refine ThenD.n ?_ | refine ThenD.r ?_)); all_goals (first | refine WC.id ?_ | refine WL.id ?_ | ((repeat clear hK); (repeat clear Kx))))
      all_goals try (exfalso; first | contradiction | omega)
      all_goals (refine ⟨trivial, _, rfl, ?_⟩; (first | exact fD | refine FinD.i ?_ | refine FinD.b ?_ | refine FinD.rowKE (.head _) ?_ | refine FinD.rowE (.head _) ?_ | refine FinD.nilKE (by decide) ?_ | refine FinD.nilE ?_ | refine FinD.s ?_))
  · rw [decide_eq_false (fun q => h0 q.1)]
    (refine Fn.intro1 Tryz.func23 rfl rfl ?_; simp only [Tryz.ntmps23, List.length_cons, List.length_nil, Nat.reduceAdd, Nat.reduceSub, List.replicate_succ, List.replicate_zero, List.cons_append, List.nil_append])
    ((repeat' (first | (apply WL.opN; exact yF; dsimp only [setD, z0, z1]) | refine WL.nil ?_ | refine WC.seqK fun Kx hK => ?_ | (refine hK _ _ ?_; clear hK) | (refine Kont.skip ?_; clear hK) | refine WC.region ?_ | (apply WL.opG; (focus (first | exact wN | (apply SYG.yes; (exact wY); ((first | (apply SY.call (c1) Tryz.call12; (exact aD)) | (apply SY.call (c2) Tryz.call66; (exact aD)) | ((first | apply SY.move | apply SY.assign | apply SY.leq | apply SY.eql) <;> (exact oD)) | (apply SY.len; (exact oD); (exact nD); (exact uD)) | (apply SY.lenRK; exact OpD.t rfl; (first | exact .head _ | exact .tail _ (.head _)); (exact uD)) | (apply SY.lenR; exact OpD.t rfl; (first | exact .head _ | exact .tail _ (.head _)); (exact uD)) | (first | (apply SY.eqlV vxT <;> (exact oD))) | (apply SY.eqlB; (exact oD); (exact oD); exact eqBB) | (apply SY.pickT; (exact oD); (with_reducible rfl); (exact oD)) | (apply SY.pickF; (exact oD); (with_reducible rfl); (exact oD)) | fail); all_goals infer_instance)))); dsimp only [setD, z0, z1]) | ((first | refine WL.caseP rfl rfl rfl (fun h => ?_) (fun h => ?_) | refine WL.caseN rfl rfl rfl (fun h => ?_) (fun h => ?_) | refine WL.caseB rfl rfl rfl (fun h => ?_) (fun h => ?_)) <;> (first | (exfalso; first | omega | contradiction) | (dsimp only [z0, z1]))) | refine WC.skip ?_ | refine WC.ret ?_ | refine ThenD.n ?_ | refine ThenD.r ?_)); all_goals (first | refine WC.id ?_ | refine WL.id ?_ | ((repeat clear hK); (repeat clear Kx))))
    all_goals try (exfalso; first | contradiction | omega)
    all_goals (refine ⟨trivial, _, rfl, ?_⟩; (first | exact fD | refine FinD.i ?_ | refine FinD.b ?_ | refine FinD.rowKE (.head _) ?_ | refine FinD.rowE (.head _) ?_ | refine FinD.nilKE (by decide) ?_ | refine FinD.nilE ?_ | refine FinD.s ?_))
end Go.Proofs.YtgppfikidagfpaaGreatDoor
namespace Go.Proofs.YtgppfikidagfpaaGreatDoor
section
variable {φ : Vx → Vx}
def Keeps (φ : Vx → Vx) : Prop := ∀ a b, cmpV (φ a) (φ b) = cmpV a b
abbrev mpC (φ : Vx → Vx) (l : Cx) : Cx := l.map (List.map φ)
theorem nat_inj (hφ : Keeps φ) {a b : Vx} : φ a = φ b ↔ a = b := by rw [← cmpV_eq, hφ, cmpV_eq]
theorem nat_mem (hφ : Keeps φ) {a : Vx} {s : List Vx} : φ a ∈ s.map φ ↔ a ∈ s := by
  rw [List.mem_map]
  exact ⟨fun ⟨x, hx, e⟩ => (nat_inj hφ).1 e ▸ hx, fun h => ⟨a, h, rfl⟩⟩
theorem nat_list (hφ : Keeps φ) {s t : List Vx} : s.map φ = t.map φ ↔ s = t := List.map_inj_right fun _ _ e => (nat_inj hφ).1 e
theorem nat_memC (hφ : Keeps φ) {s : List Vx} {l : Cx} : s.map φ ∈ mpC φ l ↔ s ∈ l := by
  rw [List.mem_map]
  exact ⟨fun ⟨x, hx, e⟩ => (nat_list hφ).1 e ▸ hx, fun h => ⟨s, h, rfl⟩⟩
theorem nat_cmpL (hφ : Keeps φ) : ∀ s t : List Vx, cmpL (s.map φ) (t.map φ) = cmpL s t
  | [], [] => rfl
  | [], _ :: _ => rfl
  | _ :: _, [] => rfl
  | x :: a, y :: b => by
    show (if cmpV (φ x) (φ y) = 0 then cmpL (a.map φ) (b.map φ) else cmpV (φ x) (φ y)) = if cmpV x y = 0 then cmpL a b else cmpV x y
    rw [hφ, nat_cmpL hφ a b]
theorem nat_inside (hφ : Keeps φ) (s t : List Vx) : insideV (s.map φ) (t.map φ) = insideV s t := by
  unfold insideV
  rw [List.all_map]
  congr 1
  funext x
  exact decide_eq_decide.2 (nat_mem hφ)
theorem nat_covered (hφ : Keeps φ) (l : Cx) (s : List Vx) : coveredC (mpC φ l) (s.map φ) = coveredC l s := by
  unfold coveredC
  rw [List.any_map]
  congr 1
  funext x
  show (decide ((s.map φ).length < (x.map φ).length) && insideV (s.map φ) (x.map φ)) = _
  rw [List.length_map, List.length_map, nat_inside hφ]
theorem nat_insC (hφ : Keeps φ) (s : List Vx) : ∀ l : Cx, insC (mpC φ l) (s.map φ) = mpC φ (insC l s)
  | [] => rfl
  | x :: l => by
    show (if cmpL (s.map φ) (x.map φ) < 0 then s.map φ :: x.map φ :: mpC φ l else x.map φ :: insC (mpC φ l) (s.map φ)) = mpC φ (if cmpL s x < 0 then s :: x :: l else x :: insC l s)
    rw [nat_cmpL hφ, nat_insC hφ s l]
    split <;> rfl
theorem nat_putC (hφ : Keeps φ) (l : Cx) (s : List Vx) : putC (mpC φ l) (s.map φ) = mpC φ (putC l s) := by
  unfold putC
  by_cases h : s ∈ l
  · rw [if_pos h, if_pos ((nat_memC hφ).2 h)]
  · rw [if_neg h, if_neg fun q => h ((nat_memC hφ).1 q), nat_insC hφ]
theorem nat_foldPut (hφ : Keeps φ) : ∀ l out : Cx, (mpC φ l).foldl putC (mpC φ out) = mpC φ (l.foldl putC out)
  | [], _ => rfl
  | s :: l, out => by
    show (mpC φ l).foldl putC (putC (mpC φ out) (s.map φ)) = mpC φ (l.foldl putC (putC out s))
    rw [nat_putC hφ, nat_foldPut hφ l]
theorem nat_max (hφ : Keeps φ) (l : Cx) : maxC (mpC φ l) = mpC φ (maxC l) := by
  unfold maxC
  have e : (mpC φ l).filter (topC (mpC φ l)) = mpC φ (l.filter (topC l)) := by
    unfold mpC
    rw [List.filter_map]
    congr 1
    refine List.filter_congr fun x _ => ?_
    show topC (mpC φ l) (x.map φ) = topC l x
    unfold topC
    rw [List.length_map, nat_covered hφ]
  rw [e]
  exact nat_foldPut hφ _ []
end
theorem mono_of : ∀ (l : List Int) (a : Int), (a :: l).Pairwise (· < ·) → ∃ g : Int → Int, (∀ i j, i < j → g i < g j) ∧ g 0 = a ∧ ∀ (k : Nat) (h : k < l.length), g ((k : Int) + 1) = l[k]
  | [], a, _ => ⟨fun i => a + i, fun i j h => by show a + i < a + j; omega, by show a + 0 = a; omega, fun k h => by cases h⟩
  | b :: l, a, hp => by
    obtain ⟨h1, h2⟩ := List.pairwise_cons.1 hp
    obtain ⟨g, hg, h0, hk⟩ := mono_of l b h2
    have hab : a < b := h1 b (by simp)
    refine ⟨fun i => if i ≤ 0 then a + i else g (i - 1), fun i j hij => ?_, by show (if (0 : Int) ≤ 0 then a + 0 else _) = a; rw [if_pos (by omega)]; omega, fun k h => ?_⟩
    · show (if i ≤ 0 then a + i else g (i - 1)) < if j ≤ 0 then a + j else g (j - 1)
      by_cases hi : i ≤ 0
      · rw [if_pos hi]
        by_cases hj : j ≤ 0
        · rw [if_pos hj]; omega
        · rw [if_neg hj]
          have : g 0 ≤ g (j - 1) := by
            by_cases e : j - 1 = 0
            · rw [e]; omega
            · have := hg 0 (j - 1) (by omega); omega
          omega
      · rw [if_neg hi, if_neg (show ¬ j ≤ 0 by omega)]
        exact hg _ _ (by omega)
    · show (if ((k : Int) + 1) ≤ 0 then _ else g ((k : Int) + 1 - 1)) = _
      rw [if_neg (by omega), show (k : Int) + 1 - 1 = (k : Int) by omega]
      cases k with
      | zero => exact h0
      | succ k =>
        have := hk k (by simpa using h)
        rw [show ((k + 1 : Nat) : Int) = (k : Int) + 1 by omega, this]
        rfl
theorem keeps_color {g : Int → Int} (hg : ∀ i j, i < j → g i < g j) : Keeps fun v => (g v.1, v.2) := fun a b => by
  have h : ∀ x y : Int, g x < g y ↔ x < y := fun x y => ⟨fun h => by
    by_cases e : x = y
    · rw [e] at h; omega
    · by_cases h' : x < y
      · exact h'
      · have := hg y x (by omega); omega, hg x y⟩
  unfold cmpV
  simp only [h]
def canS (n : Nat) : List Vx := (List.range n).map fun i => (((i : Nat) : Int), 0)
theorem canS_len (n : Nat) : (canS n).length = n := by simp [canS]
theorem canS_get {n i : Nat} (h : i < (canS n).length) : (canS n)[i] = ((i : Int), 0) := by simp [canS]
theorem placeB_get {s : List Vx} {bl : List Nat} {i : Nat} (h : i < (placeB s bl).length) : (placeB s bl)[i] = ((s[i]'(by rw [placeB_len] at h; exact h)).1, ((snapB bl i 0 : Nat) : Int)) := by simp [placeB]
theorem can_map {s : List Vx} (hs : s.Pairwise fun a b => a.1 < b.1) : ∃ φ, Keeps φ ∧ (∀ v, (φ v).2 = v.2) ∧ (∀ (i : Nat) (m : Int) (h : i < s.length), φ ((i : Int), m) = (s[i].1, m)) ∧ facB s = mpC φ (facB (canS s.length)) := by
  obtain ⟨g, hg, hk⟩ : ∃ g : Int → Int, (∀ i j, i < j → g i < g j) ∧ ∀ (k : Nat) (h : k < s.length), g (k : Int) = s[k].1 := by
    cases s with
    | nil => exact ⟨id, fun _ _ h => h, fun k h => by cases h⟩
    | cons x s =>
      have hp : ((x :: s).map fun v : Vx => v.1).Pairwise (· < ·) := List.pairwise_map.2 hs
      obtain ⟨g, h1, h2, h3⟩ := mono_of (s.map fun v : Vx => v.1) x.1 hp
      refine ⟨g, h1, fun k h => ?_⟩
      cases k with
      | zero => exact h2
      | succ k =>
        have := h3 k (by simpa using h)
        rw [show ((k + 1 : Nat) : Int) = (k : Int) + 1 by omega, this]
        simp
  refine ⟨fun v => (g v.1, v.2), keeps_color hg, fun _ => rfl, fun i m h => by show (g (i : Int), m) = _; rw [hk i h], ?_⟩
  unfold facB mpC
  rw [canS_len, List.map_map]
  refine List.map_congr_left fun bl _ => ?_
  show placeB s bl = (placeB (canS s.length) bl).map _
  apply List.ext_getElem
  · rw [List.length_map, placeB_len, placeB_len, canS_len]
  · intro i h1 h2
    rw [List.getElem_map, placeB_get, placeB_get, canS_get]
    show _ = (g (i : Int), _)
    rw [hk i (by rw [placeB_len] at h1; exact h1)]
end Go.Proofs.YtgppfikidagfpaaGreatDoor
