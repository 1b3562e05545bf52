/-
  Part 36 of the texts that the claims of this seat lean on: walks of the program's functions by contracts over symbolic frames, and plain laws of what they compute. No condition.
-/
import Derived.Test.YtmlikmldfdgmcaaGreatVp16
import Derived.Test.YtmlikmldfdgmcaaGreatVp26
import Derived.Test.YtmlikmldfdgmcaaGreatVp31
import Derived.Test.YtmlikmldfdgmcaaGreatVp34
import Derived.Test.YtmlikmldfdgmcaaGreatVp35
set_option linter.unusedVariables false
set_option linter.unusedSimpArgs false
set_option linter.unusedSectionVars false
namespace Go.Proofs.YtmlikmldfdgmcaaGreat
open Go.RowKit
set_option linter.unusedSimpArgs false

set_option maxHeartbeats 2000000
set_option maxRecDepth 100000
section
variable {P : Program} {ops : Array Oper} {hp : List HObj} {fr : List Dat} {d e : Dat} {dst : Option Tmp} {ty : TypeId} {ps : String} {af : Array Edge} {g : Option (Nat × Bool)} {T T1 T2 : TypeId} {x y : Operand}
theorem SY.remE {p q c : Int} (h : p.tmod q = c) (h0 : q ≠ 0) (hx : OpD fr x (dI p)) (hy : OpD fr y (dI q)) : SY P ops hp { dst := dst, op := .binOp .rem T x y T2, type := ty, pos := ps, after := af, guard := g } fr (dI c) := h ▸ SY.rem hx hy h0
theorem SY.loadCx {l : Cx} (T' : TyI P T1 1 true) (hx : OpD fr x (dP 1 false (dS Simps l))) : SY P ops hp { dst := dst, op := .load T1 x, type := ty, pos := ps, after := af, guard := g } fr (dS Cpx l) := SY.val fun {I w a} ho => by
  obtain ⟨b, off, u, h1, ⟨hb, cs, k1, k0, k2, k3, k4⟩, hu⟩ := hx.get (by simp [Op.operands]) ho
  simp only [Bool.false_eq_true, if_false] at k4
  subst k4
  have hc : Cells I w b off 1 true (.agg #[u]) := ⟨hb, [u], rfl, Nat.one_pos, k2, k3, rfl⟩
  refine ⟨.agg #[u], ?_, u, rfl, k2 u (by simp), hu⟩
  unfold execOp
  simp only [h1, Sem.run_bind, run_loadC T' hc, Result.andThen_ok, Sem.run_pure]
end
theorem tmod_nat (a b : Nat) : ((a : Int)).tmod (b : Int) = ((a % b : Nat) : Int) := by
  rw [Int.tmod_eq_emod_of_nonneg (by omega)]
  rfl
theorem edge_p : Fn Tryz.prog 14 [] (dS Verts [(0, 0), (1, 0)]) := by
  (refine Fn.intro1 Tryz.func14 rfl rfl ?_; simp only [Tryz.ntmps14, List.length_cons, List.length_nil, Nat.reduceAdd, Nat.reduceSub, List.replicate_succ, List.replicate_zero, List.cons_append, List.nil_append])
  ((repeat' (first | (apply WL.opN; exact yF; dsimp only [setD, z0, z1]) | refine WL.nil ?_ | refine WC.seqK fun Kx hK => ?_ | (refine hK _ _ ?_; clear hK) | refine WC.region ?_ | (apply WL.opN; (focus ((first | (first | (apply SY.mkV0 vxT <;> (exact oD)) | (apply SY.mkV1 vxT <;> (exact oD)) | (apply SY.mkV vxT <;> (exact oD))) | (apply SY.buildE; (exact eD); ((try simp only [List.map_cons, List.map_nil]); (repeat (first | exact ElsD.nl | (apply ElsD.cn; (first | exact OpD.t rfl | exact OpD.i | exact OpD.b | exact OpD.tle rfl (by first | exact Dat.le_nil | exact Dat.le_nilK (by decide)) | exact ⟨Dat.le_nil⟩ | exact ⟨Dat.le_nilK (by decide)⟩))))); rfl; rfl; decide; (intro _; exact shape_V); (exact (by simp))) | fail); all_goals infer_instance)); dsimp only [setD, z0, z1]) | refine WC.ret ?_)); all_goals (first | ((repeat clear hK); (repeat clear Kx))))
  (refine ⟨trivial, _, rfl, ?_⟩; exact fD)
def startL (n : List Int) (i : Nat) : Nat := if n.length = 0 then 0 else (n.getD (i % n.length) 0).toNat % 8
def labL (sets : List Nat) (n : List Int) (k : Nat) : List Int := (List.range k).map fun j => ((2 ^ runL (sets.getD j 0) 8 (startL n j) : Nat) : Int)
theorem labL_snoc (sets : List Nat) (n : List Int) (k : Nat) : labL sets n (k + 1) = labL sets n k ++ [((2 ^ runL (sets.getD k 0) 8 (startL n k) : Nat) : Int)] := by
  unfold labL
  rw [List.range_succ, List.map_append]
  rfl
theorem startL_lt (n : List Int) (i : Nat) : startL n i < 8 := by unfold startL; split <;> omega
set_option maxHeartbeats 8000000 in
theorem labeling_p (vs : List Vx) (sets : List Nat) (n : List Int) (hs : ∀ m ∈ sets, m < 256) (hl : sets.length ≤ 100000) : Fn Tryz.prog 10 [dS Lab (vs, intsB sets), dS Byts n] (dS Lab (vs, labL sets n sets.length)) := by
  refine Fn.introC1 tyLb Tryz.func10 rfl rfl ?_
  simp only [Tryz.ntmps10, List.length_cons, List.length_nil, Nat.reduceAdd, Nat.reduceSub, List.replicate_succ, List.replicate_zero, List.cons_append, List.nil_append]
  refine WC.know (t := 1) rfl le_Ys fun hb => ?_
  refine WC.know (t := 1) rfl le_A fun hl1 => ?_
  simp only [maxLen] at hl1
  (repeat' (first | ((first | apply WL.opN | apply WD.opN); exact yF; dsimp only [setD, z0, z1]) | refine WL.nil ?_ | refine WC.seqK fun Kx hK => ?_ | (refine hK _ _ ?_; clear hK) | refine WC.region ?_ |  (refine WL.alloc (dst := some 4) tzLb (shape_X2 rfl rfl) fun b4 => ?_; dsimp only [setD, z0, z1]) |  (refine WL.allocS (dst := some 5) (zs := [.slice none 0 0, .slice none 0 0]) tzLb (by decide) (by simp [Value.oneCell']) fun b5 => ?_; dsimp only [setD, z0, z1, List.map_cons, List.map_nil]) |  (refine WL.storeW tyLb (OpD.t rfl) (OpD.t rfl) rfl rfl ?_; dsimp only [setD]) | ((first | apply WL.opN | apply WD.opN); (focus ((first | (refine SY.fldA strLb (OpD.t rfl) R2_agg rfl rfl) | (apply SY.load; exact tyIn; exact OpD.t rfl) | (exact SY.mkL0 (OpD.t rfl)) | (apply SY.len; (exact oD); (exact nD); (exact uD)) | (apply SY.box; (exact oD); (exact hD)) | fail); all_goals infer_instance)); dsimp only [setD, z0, z1]) | refine WC.block ?_))
  rw [intsB_len]
  refine WC.nilRow 3 RI ?_
  (refine WC.loopU (X := Nat × Value) (fun x => [(15, dI (x.1 : Int)), (6, dA), (7, dA), (8, dA), (16, dA), (17, dA), (18, dA), (19, dA), (20, dA), (21, dA), (22, dA), (23, dA), (24, dA), (25, dA), (26, dA), (27, dA), (28, dA), (29, dA), (30, dA), (31, dA), (32, dA), (33, dA), (34, dA), (35, dA), (36, dA), (37, dA), (38, dA), (39, dA), (40, dA), (41, dA), (42, dA), (43, dA), (44, dA), (45, dA), (46, dA), (47, dA), (48, dA), (49, dA), (50, dA)]) (fun x => (hRow x.2 3 RI (labL sets n x.1) :: hStr b5 39 [dS Verts vs, dX x.2] :: hCell b4 39 2 true (dX (.agg #[.slice none 0 0, .slice none 0 0])) :: [])) (fun x => sets.length - x.1) (fun x => x.1 ≤ sets.length) (0, .slice none 0 0) ?start ?frame0 ?objs0 ?round)
  case start => simp
  case frame0 => ((try dsimp only [upds, z0, z1]); repeat (first | exact LeF.nil | refine LeF.co (k := ?_)))
  case objs0 => rfl
  case round =>
    rintro ⟨i, u⟩ q1
    simp only at q1
    dsimp only [upds, z0, z1]
    have hul : (labL sets n i).length ≤ 100000 := by simp [labL]; omega
    by_cases hi : i < sets.length
    · have hm := hs sets[i] (List.getElem_mem hi)
      have hk0 := startL_lt n i
      have hgd : sets.getD i 0 = sets[i] := by simp [List.getD, hi]
      by_cases hn0 : n.length = 0
      · have hst : startL n i = 0 := by unfold startL; rw [if_pos hn0]
        (repeat' (first | ((first | apply WL.opN | apply WD.opN); exact yF; dsimp only [setD, z0, z1]) | refine WL.nil ?_ | refine WC.seqK fun Kx hK => ?_ | (refine hK _ _ ?_; clear hK) | refine WC.region ?_ | ((first | apply WL.opN | apply WD.opN); (focus ((first | (apply SY.len; exact OpD.t rfl; exact len_A; exact elY.unt) | (refine SY.ixB elI (OpD.t rfl) (OpD.t rfl) hi) | ((first | apply SY.move | apply SY.assign | apply SY.lss | apply SY.gtr | apply SY.eql | apply SY.and) <;> (exact oD)) | fail); all_goals infer_instance)); dsimp only [setD, z0, z1]) | (apply WC.condD; (exact oD); all_goals (intro h; try exact xD)) | refine WC.skip ?_ | refine WC.block ?_))
        all_goals try (exfalso; omega)
        (refine WC.loopU (X := Nat × Nat) (fun x => [(32, dI (x.1 : Int)), (8, dI (x.2 : Int)), (33, dA), (34, dA), (35, dA), (36, dA), (37, dA), (38, dA), (39, dA), (40, dA), (41, dA), (42, dA)]) (fun x => (hRow u 3 RI (labL sets n i) :: hStr b5 39 [dS Verts vs, dX u] :: hCell b4 39 2 true (dX (.agg #[.slice none 0 0, .slice none 0 0])) :: [])) (fun x => 8 - x.1) (fun x => x.1 ≤ 8 ∧ x.2 < 8 ∧ x.2 = runL sets[i] x.1 (startL n i)) (0, startL n i) ?start ?frame0 ?objs0 ?round)
        case start => exact ⟨Nat.zero_le _, hk0, rfl⟩
        case frame0 => ((try dsimp only [upds, z0, z1]); repeat (first | exact LeF.nil | refine LeF.co (k := ?_)))
        case objs0 => rfl
        case round =>
          rintro ⟨j, k⟩ ⟨g1, g2, g3⟩
          simp only at g1 g2 g3
          dsimp only [upds, z0, z1]
          by_cases hj : j < 8
          · have hrem : ((k : Int) + 1).tmod 8 = (((k + 1) % 8 : Nat) : Int) := tmod_nat (k + 1) 8
            by_cases hbz : (sets[i] >>> k) &&& 1 = 0
            · ((repeat' (first | ((first | apply WL.opN | apply WD.opN); exact yF; dsimp only [setD, z0, z1]) | refine WL.nil ?_ | refine WC.seqK fun Kx hK => ?_ | (refine hK _ _ ?_; clear hK) | refine WC.region ?_ | ((first | apply WL.opN | apply WD.opN); (focus ((first | (refine SY.shrN (a := sets[i]) (b := k) (by omega) (OpD.t rfl) (OpD.t rfl)) | (refine SY.bit1 (m := sets[i]) (i := k) (by omega) (OpD.t rfl)) | (exact SY.remE hrem (by decide) (OpD.t rfl) OpD.i) | ((first | apply SY.move | apply SY.assign | apply SY.lss | apply SY.gtr | apply SY.eql | apply SY.and) <;> (exact oD)) | ((first | apply SY.add | apply SY.rem) <;> first | exact oD | omega) | fail); all_goals infer_instance)); dsimp only [setD, z0, z1]) | (apply WC.condD; (exact oD); all_goals (intro h; try exact xD)) | refine WC.skip ?_ | refine WC.block ?_ | refine ThenD.n ?_)); all_goals (first | ((repeat clear hK); (repeat clear Kx))))
              all_goals try (exfalso; omega)
              (refine ⟨(j + 1, (k + 1) % 8), ?_, by first | omega | (simp only; omega), rfl, ?_⟩; rotate_left; ((try dsimp only [upds, z0, z1]); repeat (first | exact LeF.nil | refine LeF.co (k := ?_))); (try dsimp only))
              refine ⟨by omega, by omega, ?_⟩
              rw [runL_snoc, ← g3]
              unfold stepL
              rw [if_pos hbz]
            · ((repeat' (first | ((first | apply WL.opN | apply WD.opN); exact yF; dsimp only [setD, z0, z1]) | refine WL.nil ?_ | refine WC.seqK fun Kx hK => ?_ | (refine hK _ _ ?_; clear hK) | refine WC.region ?_ | ((first | apply WL.opN | apply WD.opN); (focus ((first | (refine SY.shrN (a := sets[i]) (b := k) (by omega) (OpD.t rfl) (OpD.t rfl)) | (refine SY.bit1 (m := sets[i]) (i := k) (by omega) (OpD.t rfl)) | ((first | apply SY.move | apply SY.assign | apply SY.lss | apply SY.gtr | apply SY.eql | apply SY.and) <;> (exact oD)) | ((first | apply SY.add | apply SY.rem) <;> first | exact oD | omega) | fail); all_goals infer_instance)); dsimp only [setD, z0, z1]) | (apply WC.condD; (exact oD); all_goals (intro h; try exact xD)) | refine WC.skip ?_ | refine WC.block ?_ | refine ThenD.n ?_)); all_goals (first | ((repeat clear hK); (repeat clear Kx))))
              all_goals try (exfalso; omega)
              (refine ⟨(j + 1, k), ?_, by first | omega | (simp only; omega), rfl, ?_⟩; rotate_left; ((try dsimp only [upds, z0, z1]); repeat (first | exact LeF.nil | refine LeF.co (k := ?_))); (try dsimp only))
              refine ⟨by omega, by omega, ?_⟩
              rw [runL_snoc, ← g3]
              unfold stepL
              rw [if_neg hbz]
          · have hj8 : j = 8 := by omega
            subst hj8
            have hsh := shl_lab ⟨k, g2⟩
            simp only at hsh
            ((repeat' (first |  (apply WC.drawTail 5; kernel_rfl; kernel_rfl; simp only [List.take_succ_cons, List.take_zero, List.drop_succ_cons, List.drop_zero]) | ((first | apply WL.opN | apply WD.opN); exact yF; dsimp only [setD, z0, z1]) | refine WL.nil ?_ | refine WD.nil ?_ | refine WC.seqK fun Kx hK => ?_ | (refine hK _ _ ?_; clear hK) | (refine Kont.skip ?_; clear hK) | refine WC.region ?_ |  (refine WL.knowRow1 (.head _) fun h1 => WL.perm (List.Perm.swap _ _ _) (WL.storeS tyIn (OpD.t rfl) (OpD.t rfl) (shape_X h1) (by simp) (WL.perm (List.Perm.swap _ _ _) ?_)); dsimp only [setD, z0, z1]) | ((first | apply WL.appK | apply WL.app1); (exact eD); exact OpD.t rfl; (exact oD); decide; (exact lD); (intro _; dsimp only [setD, z0, z1]); all_goals (try infer_instance)) | ((first | apply WL.opN | apply WD.opN); (focus ((first | (refine SY.fldS strLb (OpD.t rfl) (by decide)) | (refine SY.loadS tyIn (OpD.t rfl) (.tail _ (.head _)) rfl) | (exact SY.shlE hsh (by omega) OpD.i (OpD.t rfl)) | ((first | apply SY.move | apply SY.assign | apply SY.lss | apply SY.gtr | apply SY.eql | apply SY.and) <;> (exact oD)) | ((first | apply SY.add | apply SY.rem) <;> first | exact oD | omega) | (apply SY.build1'; (exact eD); ((try simp only [List.map_cons, List.map_nil]); (repeat (first | exact ElsD.nl | (apply ElsD.cn; (first | exact OpD.t rfl | exact OpD.i | exact OpD.b | exact OpD.tle rfl (by first | exact Dat.le_nil | exact Dat.le_nilK (by decide)) | exact ⟨Dat.le_nil⟩ | exact ⟨Dat.le_nilK (by decide)⟩))))); rfl; rfl; (intro _; first | exact shape_K | exact shape_I | exact shape_A | exact shape_B); (exact (by simp))) | fail); all_goals infer_instance)); dsimp only [setD, z0, z1]) | (apply WC.condD; (exact oD); all_goals (intro h; try exact xD)) | refine WC.exit ?_ | refine ThenD.n ?_)); all_goals (first | ((repeat clear hK); (repeat clear Kx))))
            all_goals try (exfalso; omega)
            (refine ⟨(i + 1, _) , ?_, by first | omega | (simp only; omega), by ((try simp only);  (rw [labL_snoc, hgd, ← g3])), ?_⟩; rotate_left; ((try dsimp only [upds, z0, z1]); repeat (first | exact LeF.nil | refine LeF.co (k := ?_))); (try dsimp only))
            omega
      · have hmod : i % n.length < n.length := Nat.mod_lt _ (by omega)
        have hby := hb n[i % n.length] (List.getElem_mem hmod)
        have hst : startL n i = n[i % n.length].toNat % 8 := by
          unfold startL
          rw [if_neg hn0]
          simp [List.getD, hmod]
        have hst8 : (n[i % n.length]).tmod 8 = ((startL n i : Nat) : Int) := by
          rw [hst]
          have := tmod_nat n[i % n.length].toNat 8
          rw [Int.toNat_of_nonneg hby.1] at this
          exact this
        (repeat' (first | ((first | apply WL.opN | apply WD.opN); exact yF; dsimp only [setD, z0, z1]) | refine WL.nil ?_ | refine WC.seqK fun Kx hK => ?_ | (refine hK _ _ ?_; clear hK) | refine WC.region ?_ | ((first | apply WL.opN | apply WD.opN); (focus ((first | (apply SY.load; exact tyY; exact OpD.t rfl) | (apply SY.len; exact OpD.t rfl; exact len_A; exact elY.unt) | (refine SY.ixB elI (OpD.t rfl) (OpD.t rfl) hi) | (exact SY.remE (tmod_nat i n.length) (by omega) (OpD.t rfl) (OpD.t rfl)) | (refine SY.ix (R := RY) (_gR := inferInstance) elY (OpD.t rfl) (OpD.t rfl) hmod) | (exact SY.convX (OpD.tle rfl le_Y) (cvU8 _ hby)) | (exact SY.remE hst8 (by decide) (OpD.t rfl) OpD.i) | ((first | apply SY.move | apply SY.assign | apply SY.lss | apply SY.gtr | apply SY.eql | apply SY.and) <;> (exact oD)) | fail); all_goals infer_instance)); dsimp only [setD, z0, z1]) | (apply WC.condD; (exact oD); all_goals (intro h; try exact xD)) | refine WC.skip ?_ | refine WC.block ?_))
        all_goals try (exfalso; omega)
        (refine WC.loopU (X := Nat × Nat) (fun x => [(32, dI (x.1 : Int)), (8, dI (x.2 : Int)), (33, dA), (34, dA), (35, dA), (36, dA), (37, dA), (38, dA), (39, dA), (40, dA), (41, dA), (42, dA)]) (fun x => (hRow u 3 RI (labL sets n i) :: hStr b5 39 [dS Verts vs, dX u] :: hCell b4 39 2 true (dX (.agg #[.slice none 0 0, .slice none 0 0])) :: [])) (fun x => 8 - x.1) (fun x => x.1 ≤ 8 ∧ x.2 < 8 ∧ x.2 = runL sets[i] x.1 (startL n i)) (0, startL n i) ?start ?frame0 ?objs0 ?round)
        case start => exact ⟨Nat.zero_le _, hk0, rfl⟩
        case frame0 => ((try dsimp only [upds, z0, z1]); repeat (first | exact LeF.nil | refine LeF.co (k := ?_)))
        case objs0 => rfl
        case round =>
          rintro ⟨j, k⟩ ⟨g1, g2, g3⟩
          simp only at g1 g2 g3
          dsimp only [upds, z0, z1]
          by_cases hj : j < 8
          · have hrem : ((k : Int) + 1).tmod 8 = (((k + 1) % 8 : Nat) : Int) := tmod_nat (k + 1) 8
            by_cases hbz : (sets[i] >>> k) &&& 1 = 0
            · ((repeat' (first | ((first | apply WL.opN | apply WD.opN); exact yF; dsimp only [setD, z0, z1]) | refine WL.nil ?_ | refine WC.seqK fun Kx hK => ?_ | (refine hK _ _ ?_; clear hK) | refine WC.region ?_ | ((first | apply WL.opN | apply WD.opN); (focus ((first | (refine SY.shrN (a := sets[i]) (b := k) (by omega) (OpD.t rfl) (OpD.t rfl)) | (refine SY.bit1 (m := sets[i]) (i := k) (by omega) (OpD.t rfl)) | (exact SY.remE hrem (by decide) (OpD.t rfl) OpD.i) | ((first | apply SY.move | apply SY.assign | apply SY.lss | apply SY.gtr | apply SY.eql | apply SY.and) <;> (exact oD)) | ((first | apply SY.add | apply SY.rem) <;> first | exact oD | omega) | fail); all_goals infer_instance)); dsimp only [setD, z0, z1]) | (apply WC.condD; (exact oD); all_goals (intro h; try exact xD)) | refine WC.skip ?_ | refine WC.block ?_ | refine ThenD.n ?_)); all_goals (first | ((repeat clear hK); (repeat clear Kx))))
              all_goals try (exfalso; omega)
              (refine ⟨(j + 1, (k + 1) % 8), ?_, by first | omega | (simp only; omega), rfl, ?_⟩; rotate_left; ((try dsimp only [upds, z0, z1]); repeat (first | exact LeF.nil | refine LeF.co (k := ?_))); (try dsimp only))
              refine ⟨by omega, by omega, ?_⟩
              rw [runL_snoc, ← g3]
              unfold stepL
              rw [if_pos hbz]
            · ((repeat' (first | ((first | apply WL.opN | apply WD.opN); exact yF; dsimp only [setD, z0, z1]) | refine WL.nil ?_ | refine WC.seqK fun Kx hK => ?_ | (refine hK _ _ ?_; clear hK) | refine WC.region ?_ | ((first | apply WL.opN | apply WD.opN); (focus ((first | (refine SY.shrN (a := sets[i]) (b := k) (by omega) (OpD.t rfl) (OpD.t rfl)) | (refine SY.bit1 (m := sets[i]) (i := k) (by omega) (OpD.t rfl)) | ((first | apply SY.move | apply SY.assign | apply SY.lss | apply SY.gtr | apply SY.eql | apply SY.and) <;> (exact oD)) | ((first | apply SY.add | apply SY.rem) <;> first | exact oD | omega) | fail); all_goals infer_instance)); dsimp only [setD, z0, z1]) | (apply WC.condD; (exact oD); all_goals (intro h; try exact xD)) | refine WC.skip ?_ | refine WC.block ?_ | refine ThenD.n ?_)); all_goals (first | ((repeat clear hK); (repeat clear Kx))))
              all_goals try (exfalso; omega)
              (refine ⟨(j + 1, k), ?_, by first | omega | (simp only; omega), rfl, ?_⟩; rotate_left; ((try dsimp only [upds, z0, z1]); repeat (first | exact LeF.nil | refine LeF.co (k := ?_))); (try dsimp only))
              refine ⟨by omega, by omega, ?_⟩
              rw [runL_snoc, ← g3]
              unfold stepL
              rw [if_neg hbz]
          · have hj8 : j = 8 := by omega
            subst hj8
            have hsh := shl_lab ⟨k, g2⟩
            simp only at hsh
            ((repeat' (first |  (apply WC.drawTail 5; kernel_rfl; kernel_rfl; simp only [List.take_succ_cons, List.take_zero, List.drop_succ_cons, List.drop_zero]) | ((first | apply WL.opN | apply WD.opN); exact yF; dsimp only [setD, z0, z1]) | refine WL.nil ?_ | refine WD.nil ?_ | refine WC.seqK fun Kx hK => ?_ | (refine hK _ _ ?_; clear hK) | (refine Kont.skip ?_; clear hK) | refine WC.region ?_ |  (refine WL.knowRow1 (.head _) fun h1 => WL.perm (List.Perm.swap _ _ _) (WL.storeS tyIn (OpD.t rfl) (OpD.t rfl) (shape_X h1) (by simp) (WL.perm (List.Perm.swap _ _ _) ?_)); dsimp only [setD, z0, z1]) | ((first | apply WL.appK | apply WL.app1); (exact eD); exact OpD.t rfl; (exact oD); decide; (exact lD); (intro _; dsimp only [setD, z0, z1]); all_goals (try infer_instance)) | ((first | apply WL.opN | apply WD.opN); (focus ((first | (refine SY.fldS strLb (OpD.t rfl) (by decide)) | (refine SY.loadS tyIn (OpD.t rfl) (.tail _ (.head _)) rfl) | (exact SY.shlE hsh (by omega) OpD.i (OpD.t rfl)) | ((first | apply SY.move | apply SY.assign | apply SY.lss | apply SY.gtr | apply SY.eql | apply SY.and) <;> (exact oD)) | ((first | apply SY.add | apply SY.rem) <;> first | exact oD | omega) | (apply SY.build1'; (exact eD); ((try simp only [List.map_cons, List.map_nil]); (repeat (first | exact ElsD.nl | (apply ElsD.cn; (first | exact OpD.t rfl | exact OpD.i | exact OpD.b | exact OpD.tle rfl (by first | exact Dat.le_nil | exact Dat.le_nilK (by decide)) | exact ⟨Dat.le_nil⟩ | exact ⟨Dat.le_nilK (by decide)⟩))))); rfl; rfl; (intro _; first | exact shape_K | exact shape_I | exact shape_A | exact shape_B); (exact (by simp))) | fail); all_goals infer_instance)); dsimp only [setD, z0, z1]) | (apply WC.condD; (exact oD); all_goals (intro h; try exact xD)) | refine WC.exit ?_ | refine ThenD.n ?_)); all_goals (first | ((repeat clear hK); (repeat clear Kx))))
            all_goals try (exfalso; omega)
            (refine ⟨(i + 1, _) , ?_, by first | omega | (simp only; omega), by ((try simp only);  (rw [labL_snoc, hgd, ← g3])), ?_⟩; rotate_left; ((try dsimp only [upds, z0, z1]); repeat (first | exact LeF.nil | refine LeF.co (k := ?_))); (try dsimp only))
            omega
    · have hie : i = sets.length := by omega
      subst hie
      refine WC.perm (List.Perm.swap _ _ _) (WC.keepS (k := 1) rfl ?_)
      dsimp only [z0, z1]
      ((repeat' (first | refine WL.nil ?_ | refine WC.seqK fun Kx hK => ?_ | (refine hK _ _ ?_; clear hK) | (refine Kont.skip ?_; clear hK) | refine WC.region ?_ |  (refine WL.storeF2 (d := dS Lab (vs, labL sets n sets.length)) tyLb rfl (OpD.tle rfl agg_R2) shape_P ?_; dsimp only [setD, z0, z1]) | ((first | apply WL.opN | apply WD.opN); (focus ((first | (refine SY.loadW tyLb (OpD.t rfl) (.head _) (by decide) rfl) | ((first | apply SY.move | apply SY.assign | apply SY.lss | apply SY.gtr | apply SY.eql | apply SY.and) <;> (exact oD)) | fail); all_goals infer_instance)); dsimp only [setD, z0, z1]) | (apply WC.condD; (exact oD); all_goals (intro h; try exact xD)) | refine WC.ret ?_ | refine WC.exit ?_)); all_goals (first | ((repeat clear hK); (repeat clear Kx))))
      all_goals try (exfalso; omega)
      (refine ⟨trivial, _, rfl, ?_⟩; exact fD)
end Go.Proofs.YtmlikmldfdgmcaaGreat
namespace Go.Proofs.YtmlikmldfdgmcaaGreat
theorem asc_nod {s : List Vx} (h : Asc s) : s.Nodup := List.Pairwise.imp (fun {a b} h e => by
  rw [e] at h
  rw [cmpV_eq.2 rfl] at h
  omega) h
theorem findL_lab {P : List Vx} {A : List Int} (hP : Asc P) (hA : A.length = P.length) (hL : ∀ a ∈ A, Lab3I a) {v : Vx} (hv : v ∈ P) : Lab3I (findL P A v) := by
  obtain ⟨i, hi, rfl⟩ := List.getElem_of_mem hv
  rw [findL_get (asc_nod hP) hi (by omega)]
  exact hL _ (List.getElem_mem _)
theorem parity_final {l b : Cx} {P : List Vx} {A : List Int} (G : GoodX l) (hb : bndP l = (b, 0)) (hd : dimC l = 2) (hs : sizeP l = true) (hPl : ∀ s ∈ l, ∀ v ∈ s, v ∈ P) (hP : Asc P) (hA : A.length = P.length) (hL : ∀ a ∈ A, Lab3I a) :
    (l.filter fun s => decide (orL (findL P A) s = 7)).length % 2 = (b.filter fun t => decide ((playF (findL P A) t).1 = 3) && (playF (findL P A) t).2).length % 2 :=
  parity_law G hb hd hs fun s hm v hv => findL_lab hP hA hL (hPl s hm v hv)
end Go.Proofs.YtmlikmldfdgmcaaGreat
