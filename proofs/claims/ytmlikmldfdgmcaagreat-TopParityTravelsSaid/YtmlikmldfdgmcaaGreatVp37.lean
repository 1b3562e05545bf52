/-
  Part 37 of the texts that the claims of this seat lean on: walks of the program's functions by contracts over symbolic frames, and plain laws of what they compute. No condition.
-/
import Derived.Test.YtmlikmldfdgmcaaGreatVp25
import Derived.Test.YtmlikmldfdgmcaaGreatVp26
import Derived.Test.YtmlikmldfdgmcaaGreatVp36
set_option linter.unusedVariables false
set_option linter.unusedSimpArgs false
set_option linter.unusedSectionVars false
namespace Go.Proofs.YtmlikmldfdgmcaaGreat
open Go.RowKit
set_option linter.unusedSimpArgs false

set_option maxHeartbeats 2000000
set_option maxRecDepth 100000
section
variable {P : Program} {ops : Array Oper} {hp : List HObj} {fr : List Dat} {dst : Option Tmp} {ty : TypeId} {ps : String} {af : Array Edge} {g : Option (Nat × Bool)} {T T2 : TypeId} {x y : Operand} {p q : Int}
theorem SY.neqF (h : p = q) (hx : OpD fr x (dI p)) (hy : OpD fr y (dI q)) : SY P ops hp { dst := dst, op := .binOp .neq T x y T2, type := ty, pos := ps, after := af, guard := g } fr (dB false) := by
  have := SY.neq (P := P) (ops := ops) (hp := hp) (dst := dst) (ty := ty) (ps := ps) (af := af) (g := g) (T := T) (T2 := T2) hx hy
  rwa [decide_eq_true h] at this
theorem SY.eqlT (h : p = q) (hx : OpD fr x (dI p)) (hy : OpD fr y (dI q)) : SY P ops hp { dst := dst, op := .binOp .eql T x y T2, type := ty, pos := ps, after := af, guard := g } fr (dB true) := by
  have := SY.eql (P := P) (ops := ops) (hp := hp) (dst := dst) (ty := ty) (ps := ps) (af := af) (g := g) (T := T) (T2 := T2) hx hy
  rwa [decide_eq_true h] at this
theorem SY.eqlF (h : p ≠ q) (hx : OpD fr x (dI p)) (hy : OpD fr y (dI q)) : SY P ops hp { dst := dst, op := .binOp .eql T x y T2, type := ty, pos := ps, after := af, guard := g } fr (dB false) := by
  have := SY.eql (P := P) (ops := ops) (hp := hp) (dst := dst) (ty := ty) (ps := ps) (af := af) (g := g) (T := T) (T2 := T2) hx hy
  rwa [decide_eq_false h] at this
end
theorem find_app {u v : Vx} (h : v ≠ u) : ∀ (l : List Vx) (A : List Int), findL (l ++ [u]) A v = findL l A v
  | [], [] => by unfold findL; rfl
  | [], a :: A => by
    show findL [u] (a :: A) v = findL [] (a :: A) v
    unfold findL
    rw [if_neg fun e => h e.symm]
    unfold findL
    cases A <;> rfl
  | w :: l, [] => by
    show findL (w :: (l ++ [u])) [] v = _
    unfold findL; rfl
  | w :: l, a :: A => by
    show findL (w :: (l ++ [u])) (a :: A) v = _
    unfold findL
    by_cases hw : w = v
    · rw [if_pos hw, if_pos hw]
    · rw [if_neg hw, if_neg hw]
      exact find_app h l A
theorem find_snoc {vs : List Vx} {A : List Int} {v : Vx} {i : Nat} (hn : vs.Nodup) (hi : i < vs.length) (hA : i < A.length) : findL (vs.take (i + 1)) A v = if v = vs[i] then A[i] else findL (vs.take i) A v := by
  by_cases h : v = vs[i]
  · rw [if_pos h, h]
    have h1 : i < (vs.take (i + 1)).length := by rw [List.length_take]; omega
    have := findL_get (vs := vs.take (i + 1)) (A := A) (i := i) (List.Nodup.sublist (List.take_sublist _ _) hn) h1 hA
    rwa [List.getElem_take] at this
  · rw [if_neg h, List.take_succ_eq_append_getElem hi, find_app h]
def cntP (b : Cx) (f : Vx → Int) (mask : Int) : Int := ((b.filter fun t => decide ((playF f t).1 = mask) && (playF f t).2).length : Int)
theorem cntP_snoc {b : Cx} {f : Vx → Int} {mask : Int} {k : Nat} (h : k < b.length) : cntP (b.take (k + 1)) f mask = cntP (b.take k) f mask + if (playF f b[k]).2 = true ∧ (playF f b[k]).1 = mask then 1 else 0 := by
  unfold cntP
  rw [take_snoc' h, List.filter_append, List.length_append]
  by_cases hp : (playF f b[k]).2 = true ∧ (playF f b[k]).1 = mask
  · rw [if_pos hp, List.filter_cons_of_pos (by simp [hp.1, hp.2])]
    simp
  · rw [if_neg hp, List.filter_cons_of_neg (by
      intro hc
      rw [Bool.and_eq_true, decide_eq_true_eq] at hc
      exact hp ⟨hc.2, hc.1⟩)]
    simp
theorem playF_snoc {f : Vx → Int} {s : List Vx} {j : Nat} (h : j < s.length) : playF f (s.take (j + 1)) = (ior (playF f (s.take j)).1 (f s[j]), (playF f (s.take j)).2 && decide (f s[j] ≠ 0) && decide (iand (playF f (s.take j)).1 (f s[j]) = 0)) := by
  unfold playF
  rw [List.take_succ_eq_append_getElem h, List.foldl_append]
  rfl
set_option maxHeartbeats 16000000 in
theorem count_p (b : Cx) (vs : List Vx) (A : List Int) (mask : Int) (ha : Asc vs) (hA : A.length = vs.length) (hl : vs.length ≤ 1000000) (hb8 : ∀ s ∈ b, s.length ≤ 1000000) : Fn Tryz.prog 12 [dS Simps b, dS Lab (vs, A), dI mask] (dI (cntP b (findL vs A) mask)) := by
  have hn := asc_nod ha
  (refine Fn.intro1 Tryz.func12 rfl rfl ?_; simp only [Tryz.ntmps12, List.length_cons, List.length_nil, Nat.reduceAdd, Nat.reduceSub, List.replicate_succ, List.replicate_zero, List.cons_append, List.nil_append])
  (first | refine WC.know (t := 0) rfl le_K fun hl0 => ?_ | refine WC.know (t := 0) rfl le_A fun hl0 => ?_ | refine WC.know (t := 0) rfl le_C fun hl0 => ?_); simp only [maxLen] at hl0
  (repeat' (first | (apply WL.opN; exact yF; dsimp only [setD, z0, z1]) | refine WL.nil ?_ | refine WC.seqK fun Kx hK => ?_ | (refine hK _ _ ?_; clear hK) | refine WC.region ?_ | (apply WL.opG; (focus (first | exact wN | (apply SYG.yes; (exact wY); ((first | (apply SY.len; (exact oD); (exact nD); (exact uD)) | (apply SY.box; (exact oD); (exact hD)) | fail); all_goals infer_instance)))); dsimp only [setD, z0, z1]) | refine WC.block ?_))
  (refine WC.loopU (X := Nat) (fun k => [(7, dI (cntP (b.take k) (findL vs A) mask)), (19, dI (k : Int)), (9, dA), (10, dA), (11, dA), (13, dA), (14, dA), (15, dA), (16, dA), (20, dA), (21, dA), (22, dA), (23, dA), (24, dA), (25, dA), (26, dA), (27, dA), (28, dA), (29, dA), (30, dA), (31, dA), (32, dA), (33, dA), (34, dA), (35, dA), (36, dA), (37, dA), (38, dA), (39, dA), (40, dA), (41, dA), (42, dA), (43, dA), (44, dA), (45, dA), (46, dA), (47, dA), (48, dA), (49, dA), (50, dA), (51, dA), (52, dA), (53, dA), (54, dA), (55, dA), (56, dA), (57, dA), (58, dA), (59, dA), (60, dA), (61, dA), (62, dA), (63, dA), (64, dA), (65, dA), (66, dA), (67, dA), (68, dA), (69, dA)]) (fun k => []) (fun k => b.length - k) (fun k => k ≤ b.length) 0 ?start ?frame0 ?objs0 ?round)
  case start => exact Nat.zero_le _
  case frame0 => ((try dsimp only [upds, z0, z1]); repeat (first | exact LeF.nil | refine LeF.co (k := ?_)))
  case objs0 => rfl
  case round =>
    rintro k g1
    dsimp only [upds, z0, z1]
    by_cases hk : k < b.length
    · have hbk := hb8 _ (List.getElem_mem hk)
      have hcb : 0 ≤ cntP (b.take k) (findL vs A) mask ∧ cntP (b.take k) (findL vs A) mask ≤ 9223372036854775806 := by
        unfold cntP
        have h1 := List.length_filter_le (fun t => decide ((playF (findL vs A) t).1 = mask) && (playF (findL vs A) t).2) (b.take k)
        rw [List.length_take] at h1
        omega
      (repeat' (first | (apply WL.opN; exact yF; dsimp only [setD, z0, z1]) | refine WL.nil ?_ | refine WC.seqK fun Kx hK => ?_ | (refine hK _ _ ?_; clear hK) | refine WC.region ?_ | (apply WL.opG; (focus (first | exact wN | (apply SYG.yes; (exact wY); ((first | ((first | apply SY.move | apply SY.assign | apply SY.lss | apply SY.eql | apply SY.neq | apply SY.and | apply SY.or) <;> (exact oD)) | (apply SY.len; (exact oD); (exact nD); (exact uD)) | (apply SY.ix; (exact eD); (exact oD); (exact oD); exact kD) | fail); all_goals infer_instance)))); dsimp only [setD, z0, z1]) | (apply WC.condD; (exact oD); all_goals (intro h; try exact xD)) | refine WC.skip ?_ | refine WC.block ?_))
      all_goals try (exfalso; omega)
      (refine WC.loopU (X := Nat × Int × Bool) (fun x => [(25, dI (x.1 : Int)), (10, dI x.2.1), (11, dB x.2.2), (13, dA), (14, dA), (15, dA), (16, dA), (26, dA), (27, dA), (28, dA), (29, dA), (30, dA), (31, dA), (32, dA), (33, dA), (34, dA), (35, dA), (36, dA), (37, dA), (38, dA), (39, dA), (40, dA), (41, dA), (42, dA), (43, dA), (44, dA), (45, dA), (46, dA), (47, dA), (48, dA), (49, dA), (50, dA), (51, dA), (52, dA), (53, dA), (54, dA), (55, dA), (56, dA), (57, dA), (58, dA), (59, dA), (60, dA)]) (fun x => []) (fun x => b[k].length - x.1) (fun x => x.1 ≤ b[k].length ∧ x.2 = playF (findL vs A) (b[k].take x.1)) (0, 0, true) ?start ?frame0 ?objs0 ?round)
      case start => exact ⟨Nat.zero_le _, rfl⟩
      case frame0 => ((try dsimp only [upds, z0, z1]); repeat (first | exact LeF.nil | refine LeF.co (k := ?_)))
      case objs0 => rfl
      case round =>
        rintro ⟨j, m, o⟩ ⟨q1, q2⟩
        simp only at q1 q2
        dsimp only [upds, z0, z1]
        by_cases hj : j < b[k].length
        · have hsn := playF_snoc (f := findL vs A) hj
          rw [← q2] at hsn
          simp only at hsn
          have h00 : (dI 0).le (dI (findL (vs.take 0) A b[k][j])) := le_ii (by rw [List.take_zero]; unfold findL; cases A <;> rfl)
          (repeat' (first | (apply WL.opN; exact yF; dsimp only [setD, z0, z1]) | refine WL.nil ?_ | refine WC.seqK fun Kx hK => ?_ | (refine hK _ _ ?_; clear hK) | refine WC.region ?_ | (apply WL.alloc; (first | exact tzV | exact tzC); (first | exact shape_X rfl | exact shape_XV | exact shape_C0 rfl); (intro _; dsimp only [setD, z0, z1])) | (apply WL.storeF; (exact tD); rfl; (exact oD); (exact hD); dsimp only [setD, z0, z1]) | (apply WL.opG; (focus (first | exact wN | (apply SYG.yes; (exact wY); ((first | (refine SY.fldA strLb (OpD.t rfl) R2_agg rfl rfl) | ((first | apply SY.move | apply SY.assign | apply SY.lss | apply SY.eql | apply SY.neq | apply SY.and | apply SY.or) <;> (exact oD)) | (apply SY.len; (exact oD); (exact nD); (exact uD)) | (apply SY.ixK; (exact eD); (exact oD); (exact oD); exact kD) | fail); all_goals infer_instance)))); dsimp only [setD, z0, z1]) | (apply WC.condD; (exact oD); all_goals (intro h; try exact xD)) | refine WC.skip ?_ | refine WC.block ?_))
          all_goals try (exfalso; omega)
          (refine WC.loopU (X := Nat) (fun i => [(32, dI (i : Int)), (14, dI (findL (vs.take i) A (b[k][j]))), (15, dA), (16, dA), (33, dA), (34, dA), (35, dA), (36, dA), (37, dA), (38, dA), (39, dA), (40, dA), (41, dA), (42, dA), (43, dA), (44, dA), (45, dA)]) (fun i => []) (fun i => vs.length - i) (fun i => i ≤ vs.length) 0 ?start ?frame0 ?objs0 ?round)
          case start => exact Nat.zero_le _
          case frame0 => ((try dsimp only [upds, z0, z1]); repeat (first | exact LeF.nil | refine LeF.co (k := ?_)))
          case objs0 => rfl
          case round =>
            rintro i w1
            dsimp only [upds, z0, z1]
            by_cases hi : i < vs.length
            · have hiA : i < A.length := by omega
              have hfs := find_snoc (v := b[k][j]) hn hi hiA
              by_cases he : b[k][j] = vs[i]
              · rw [if_pos he] at hfs
                ((repeat' (first | (apply WL.opN; exact yF; dsimp only [setD, z0, z1]) | refine WL.nil ?_ | refine WC.seqK fun Kx hK => ?_ | (refine hK _ _ ?_; clear hK) | refine WC.region ?_ | (apply WL.alloc; (first | exact tzV | exact tzC); (first | exact shape_X rfl | exact shape_XV | exact shape_C0 rfl); (intro _; dsimp only [setD, z0, z1])) | (apply WL.storeF; (exact tD); rfl; (exact oD); (exact hD); dsimp only [setD, z0, z1]) | (apply WL.opG; (focus (first | exact wN | (apply SYG.yes; (exact wY); ((first | (refine SY.fldA strLb (OpD.t rfl) R2_agg rfl rfl) | (apply SY.load; exact tyIn; exact OpD.t rfl) | (refine SY.ix (R := RI) (_gR := inferInstance) elI (OpD.t rfl) (OpD.t rfl) hiA) | ((first | apply SY.move | apply SY.assign | apply SY.lss | apply SY.eql | apply SY.neq | apply SY.and | apply SY.or) <;> (exact oD)) | ((first | apply SY.add) <;> first | exact oD | omega) | (apply SY.ixK; (exact eD); (exact oD); (exact oD); exact kD) | (first | (apply SY.fld0 vxT <;> (exact oD)) | (apply SY.fld1 vxT <;> (exact oD)) | (apply SY.eqlV vxT <;> (exact oD)) | (apply SY.neqV vxT <;> (exact oD))) | fail); all_goals infer_instance)))); dsimp only [setD, z0, z1]) | (apply WC.condD; (exact oD); all_goals (intro h; try exact xD)) | refine WC.skip ?_ | refine WC.block ?_ | refine ThenD.n ?_)); all_goals (first | ((repeat clear hK); (repeat clear Kx))))
                all_goals try (exfalso; first | contradiction | omega)
                rw [← hfs]
                (refine ⟨i + 1, ?_, by first | omega | (simp only; omega), rfl, ?_⟩; rotate_left; ((try dsimp only [upds, z0, z1]); repeat (first | exact LeF.nil | refine LeF.co (k := ?_))); (try dsimp only))
                omega
              · rw [if_neg he] at hfs
                ((repeat' (first | (apply WL.opN; exact yF; dsimp only [setD, z0, z1]) | refine WL.nil ?_ | refine WC.seqK fun Kx hK => ?_ | (refine hK _ _ ?_; clear hK) | refine WC.region ?_ | (apply WL.alloc; (first | exact tzV | exact tzC); (first | exact shape_X rfl | exact shape_XV | exact shape_C0 rfl); (intro _; dsimp only [setD, z0, z1])) | (apply WL.storeF; (exact tD); rfl; (exact oD); (exact hD); dsimp only [setD, z0, z1]) | (apply WL.opG; (focus (first | exact wN | (apply SYG.yes; (exact wY); ((first | ((first | apply SY.move | apply SY.assign | apply SY.lss | apply SY.eql | apply SY.neq | apply SY.and | apply SY.or) <;> (exact oD)) | ((first | apply SY.add) <;> first | exact oD | omega) | (apply SY.ixK; (exact eD); (exact oD); (exact oD); exact kD) | (first | (apply SY.fld0 vxT <;> (exact oD)) | (apply SY.fld1 vxT <;> (exact oD)) | (apply SY.eqlV vxT <;> (exact oD)) | (apply SY.neqV vxT <;> (exact oD))) | fail); all_goals infer_instance)))); dsimp only [setD, z0, z1]) | (apply WC.condD; (exact oD); all_goals (intro h; try exact xD)) | refine WC.skip ?_ | refine WC.block ?_ | refine ThenD.n ?_)); all_goals (first | ((repeat clear hK); (repeat clear Kx))))
                all_goals try (exfalso; first | contradiction | omega)
                rw [← hfs]
                (refine ⟨i + 1, ?_, by first | omega | (simp only; omega), rfl, ?_⟩; rotate_left; ((try dsimp only [upds, z0, z1]); repeat (first | exact LeF.nil | refine LeF.co (k := ?_))); (try dsimp only))
                omega
            · have hle : vs.take i = vs := List.take_of_length_le (by omega)
              rw [hle]
              cases o with
              | false =>
                have hP : playF (findL vs A) (b[k].take (j + 1)) = (ior m (findL vs A b[k][j]), false) := by rw [hsn]; simp []
                ((repeat' (first | (apply WL.opN; exact yF; dsimp only [setD, z0, z1]) | refine WL.nil ?_ | refine WC.seqK fun Kx hK => ?_ | (refine hK _ _ ?_; clear hK) | (refine Kont.skip ?_; clear hK) | refine WC.region ?_ | (apply WL.opG; (focus (first | exact wN | (apply SYG.yes; (exact wY); ((first | ((first | apply SY.move | apply SY.assign | apply SY.lss | apply SY.eql | apply SY.neq | apply SY.and | apply SY.or) <;> (exact oD)) | ((first | apply SY.add) <;> first | exact oD | omega) | (apply SY.pickF; (exact oD); (with_reducible rfl); (exact oD)) | fail); all_goals infer_instance)))); dsimp only [setD, z0, z1]) | (apply WC.condD; (exact oD); all_goals (intro h; try exact xD)) | refine WC.exit ?_ | refine ThenD.n ?_)); all_goals (first | ((repeat clear hK); (repeat clear Kx))))
                all_goals try (exfalso; first | contradiction | omega)
                (refine ⟨(j + 1, ior m (findL vs A b[k][j]), false), ?_, by first | omega | (simp only; omega), rfl, ?_⟩; rotate_left; ((try dsimp only [upds, z0, z1]); repeat (first | exact LeF.nil | refine LeF.co (k := ?_))); (try dsimp only))
                exact ⟨by omega, hP.symm⟩
              | true =>
                by_cases hz : findL vs A b[k][j] = 0
                · skip
                  have hP : playF (findL vs A) (b[k].take (j + 1)) = (ior m (findL vs A b[k][j]), false) := by rw [hsn]; simp [hz]
                  ((repeat' (first | (apply WL.opN; exact yF; dsimp only [setD, z0, z1]) | refine WL.nil ?_ | refine WC.seqK fun Kx hK => ?_ | (refine hK _ _ ?_; clear hK) | (refine Kont.skip ?_; clear hK) | refine WC.region ?_ | (apply WL.opG; (focus (first | exact wN | (apply SYG.yes; (exact wY); ((first | (exact SY.neqF hz (OpD.t rfl) OpD.i) | ((first | apply SY.move | apply SY.assign | apply SY.lss | apply SY.eql | apply SY.neq | apply SY.and | apply SY.or) <;> (exact oD)) | ((first | apply SY.add) <;> first | exact oD | omega) | (apply SY.pickT; (exact oD); (with_reducible rfl); (exact oD)) | (apply SY.pickF; (exact oD); (with_reducible rfl); (exact oD)) | fail); all_goals infer_instance)))); dsimp only [setD, z0, z1]) | (apply WC.condD; (exact oD); all_goals (intro h; try exact xD)) | refine WC.exit ?_ | refine ThenD.n ?_)); all_goals (first | ((repeat clear hK); (repeat clear Kx))))
                  all_goals try (exfalso; first | contradiction | omega)
                  (refine ⟨(j + 1, ior m (findL vs A b[k][j]), false), ?_, by first | omega | (simp only; omega), rfl, ?_⟩; rotate_left; ((try dsimp only [upds, z0, z1]); repeat (first | exact LeF.nil | refine LeF.co (k := ?_))); (try dsimp only))
                  exact ⟨by omega, hP.symm⟩
                · by_cases hia : iand m (findL vs A b[k][j]) = 0
                  · skip
                    have hP : playF (findL vs A) (b[k].take (j + 1)) = (ior m (findL vs A b[k][j]), true) := by rw [hsn]; simp [hz, hia]
                    ((repeat' (first | (apply WL.opN; exact yF; dsimp only [setD, z0, z1]) | refine WL.nil ?_ | refine WC.seqK fun Kx hK => ?_ | (refine hK _ _ ?_; clear hK) | (refine Kont.skip ?_; clear hK) | refine WC.region ?_ | (apply WL.opG; (focus (first | exact wN | (apply SYG.yes; (exact wY); ((first | (exact SY.neqI hz (OpD.t rfl) OpD.i) | (exact SY.eqlT hia (OpD.t rfl) OpD.i) | ((first | apply SY.move | apply SY.assign | apply SY.lss | apply SY.eql | apply SY.neq | apply SY.and | apply SY.or) <;> (exact oD)) | ((first | apply SY.add) <;> first | exact oD | omega) | (apply SY.pickT; (exact oD); (with_reducible rfl); (exact oD)) | fail); all_goals infer_instance)))); dsimp only [setD, z0, z1]) | (apply WC.condD; (exact oD); all_goals (intro h; try exact xD)) | refine WC.exit ?_ | refine ThenD.n ?_)); all_goals (first | ((repeat clear hK); (repeat clear Kx))))
                    all_goals try (exfalso; first | contradiction | omega)
                    (refine ⟨(j + 1, ior m (findL vs A b[k][j]), true), ?_, by first | omega | (simp only; omega), rfl, ?_⟩; rotate_left; ((try dsimp only [upds, z0, z1]); repeat (first | exact LeF.nil | refine LeF.co (k := ?_))); (try dsimp only))
                    exact ⟨by omega, hP.symm⟩
                  · skip
                    have hP : playF (findL vs A) (b[k].take (j + 1)) = (ior m (findL vs A b[k][j]), false) := by rw [hsn]; simp [hz, hia]
                    ((repeat' (first | (apply WL.opN; exact yF; dsimp only [setD, z0, z1]) | refine WL.nil ?_ | refine WC.seqK fun Kx hK => ?_ | (refine hK _ _ ?_; clear hK) | (refine Kont.skip ?_; clear hK) | refine WC.region ?_ | (apply WL.opG; (focus (first | exact wN | (apply SYG.yes; (exact wY); ((first | (exact SY.neqI hz (OpD.t rfl) OpD.i) | (exact SY.eqlF hia (OpD.t rfl) OpD.i) | ((first | apply SY.move | apply SY.assign | apply SY.lss | apply SY.eql | apply SY.neq | apply SY.and | apply SY.or) <;> (exact oD)) | ((first | apply SY.add) <;> first | exact oD | omega) | (apply SY.pickT; (exact oD); (with_reducible rfl); (exact oD)) | fail); all_goals infer_instance)))); dsimp only [setD, z0, z1]) | (apply WC.condD; (exact oD); all_goals (intro h; try exact xD)) | refine WC.exit ?_ | refine ThenD.n ?_)); all_goals (first | ((repeat clear hK); (repeat clear Kx))))
                    all_goals try (exfalso; first | contradiction | omega)
                    (refine ⟨(j + 1, ior m (findL vs A b[k][j]), false), ?_, by first | omega | (simp only; omega), rfl, ?_⟩; rotate_left; ((try dsimp only [upds, z0, z1]); repeat (first | exact LeF.nil | refine LeF.co (k := ?_))); (try dsimp only))
                    exact ⟨by omega, hP.symm⟩
        · have hle : b[k].take j = b[k] := List.take_of_length_le (by omega)
          rw [hle] at q2
          have hsn := cntP_snoc (f := findL vs A) (mask := mask) hk
          rw [← q2] at hsn
          simp only at hsn
          cases o with
          | false =>
            rw [if_neg (by simp), Int.add_zero] at hsn
            ((repeat' (first | (apply WL.opN; exact yF; dsimp only [setD, z0, z1]) | refine WL.nil ?_ | refine WC.seqK fun Kx hK => ?_ | (refine hK _ _ ?_; clear hK) | (refine Kont.skip ?_; clear hK) | refine WC.region ?_ | (apply WL.opG; (focus (first | exact wN | (apply SYG.yes; (exact wY); ((first | ((first | apply SY.move | apply SY.assign | apply SY.lss | apply SY.eql | apply SY.neq | apply SY.and | apply SY.or) <;> (exact oD)) | ((first | apply SY.add) <;> first | exact oD | omega) | (apply SY.pickF; (exact oD); (with_reducible rfl); (exact oD)) | fail); all_goals infer_instance)))); dsimp only [setD, z0, z1]) | (apply WC.condF; (exact oD); (with_reducible rfl)) | (apply WC.condD; (exact oD); all_goals (intro h; try exact xD)) | refine WC.skip ?_ | refine WC.exit ?_ | refine ThenD.n ?_)); all_goals (first | ((repeat clear hK); (repeat clear Kx))))
            all_goals try (exfalso; first | contradiction | omega)
            rw [← hsn]
            (refine ⟨k + 1, ?_, by first | omega | (simp only; omega), rfl, ?_⟩; rotate_left; ((try dsimp only [upds, z0, z1]); repeat (first | exact LeF.nil | refine LeF.co (k := ?_))); (try dsimp only))
            omega
          | true =>
            by_cases hm : m = mask
            · rw [if_pos ⟨rfl, hm⟩] at hsn
              ((repeat' (first | (apply WL.opN; exact yF; dsimp only [setD, z0, z1]) | refine WL.nil ?_ | refine WC.seqK fun Kx hK => ?_ | (refine hK _ _ ?_; clear hK) | (refine Kont.skip ?_; clear hK) | refine WC.region ?_ | (apply WL.opG; (focus (first | exact wN | (apply SYG.yes; (exact wY); ((first | (exact SY.eqlT hm (OpD.t rfl) (OpD.t rfl)) | ((first | apply SY.move | apply SY.assign | apply SY.lss | apply SY.eql | apply SY.neq | apply SY.and | apply SY.or) <;> (exact oD)) | ((first | apply SY.add) <;> first | exact oD | omega) | (apply SY.pickT; (exact oD); (with_reducible rfl); (exact oD)) | fail); all_goals infer_instance)))); dsimp only [setD, z0, z1]) | (apply WC.condT; (exact oD); (with_reducible rfl)) | (apply WC.condD; (exact oD); all_goals (intro h; try exact xD)) | refine WC.exit ?_ | refine ThenD.n ?_)); all_goals (first | ((repeat clear hK); (repeat clear Kx))))
              all_goals try (exfalso; first | contradiction | omega)
              rw [← hsn]
              (refine ⟨k + 1, ?_, by first | omega | (simp only; omega), rfl, ?_⟩; rotate_left; ((try dsimp only [upds, z0, z1]); repeat (first | exact LeF.nil | refine LeF.co (k := ?_))); (try dsimp only))
              omega
            · rw [if_neg (fun q => hm q.2), Int.add_zero] at hsn
              ((repeat' (first | (apply WL.opN; exact yF; dsimp only [setD, z0, z1]) | refine WL.nil ?_ | refine WC.seqK fun Kx hK => ?_ | (refine hK _ _ ?_; clear hK) | (refine Kont.skip ?_; clear hK) | refine WC.region ?_ | (apply WL.opG; (focus (first | exact wN | (apply SYG.yes; (exact wY); ((first | (exact SY.eqlF hm (OpD.t rfl) (OpD.t rfl)) | ((first | apply SY.move | apply SY.assign | apply SY.lss | apply SY.eql | apply SY.neq | apply SY.and | apply SY.or) <;> (exact oD)) | ((first | apply SY.add) <;> first | exact oD | omega) | (apply SY.pickT; (exact oD); (with_reducible rfl); (exact oD)) | fail); all_goals infer_instance)))); dsimp only [setD, z0, z1]) | (apply WC.condF; (exact oD); (with_reducible rfl)) | (apply WC.condD; (exact oD); all_goals (intro h; try exact xD)) | refine WC.skip ?_ | refine WC.exit ?_ | refine ThenD.n ?_)); all_goals (first | ((repeat clear hK); (repeat clear Kx))))
              all_goals try (exfalso; first | contradiction | omega)
              rw [← hsn]
              (refine ⟨k + 1, ?_, by first | omega | (simp only; omega), rfl, ?_⟩; rotate_left; ((try dsimp only [upds, z0, z1]); repeat (first | exact LeF.nil | refine LeF.co (k := ?_))); (try dsimp only))
              omega
    · have hle : b.take k = b := List.take_of_length_le (by omega)
      rw [hle]
      ((repeat' (first | (apply WL.opN; exact yF; dsimp only [setD, z0, z1]) | refine WL.nil ?_ | refine WC.seqK fun Kx hK => ?_ | (refine hK _ _ ?_; clear hK) | (refine Kont.skip ?_; clear hK) | refine WC.region ?_ | (apply WL.opG; (focus (first | exact wN | (apply SYG.yes; (exact wY); ((first | ((first | apply SY.move | apply SY.assign | apply SY.lss | apply SY.eql | apply SY.neq | apply SY.and | apply SY.or) <;> (exact oD)) | fail); all_goals infer_instance)))); dsimp only [setD, z0, z1]) | (apply WC.condD; (exact oD); all_goals (intro h; try exact xD)) | refine WC.ret ?_ | refine WC.exit ?_)); all_goals (first | ((repeat clear hK); (repeat clear Kx))))
      all_goals try (exfalso; omega)
      (refine ⟨trivial, _, rfl, ?_⟩; exact fD)
end Go.Proofs.YtmlikmldfdgmcaaGreat
namespace Go.Proofs.YtmlikmldfdgmcaaGreat
open Go.RowKit
set_option linter.unusedSimpArgs false

set_option maxHeartbeats 2000000
set_option maxRecDepth 100000
abbrev edgeF : Cx := [[(0, 1), (1, 3)], [(0, 3), (1, 2)], [(0, 3), (1, 3)]]
abbrev edgeV : List Vx := [(0, 1), (0, 3), (1, 2), (1, 3)]
theorem edge_sub : subP [(0, 0), (1, 0)] = ((edgeF, edgeV, [[(0, 0)], [(0, 0), (1, 0)], [(1, 0)], [(0, 0), (1, 0)]]), 0) := by decide +kernel
theorem edge_rbw : rbwP edgeF edgeV [1, 1, 2, 2] = (edgeF, 0) := by decide +kernel
theorem edge_shl : edgeV.map (fun v => ishl 1 v.1) = [1, 1, 2, 2] := by decide +kernel
set_option maxHeartbeats 8000000 in
theorem awake31_p : Fn Tryz.prog 4 [] (dB true) := by
  have c1 := simplex29_p [(0, 0), (1, 0)]
  rw [edge_sub] at c1
  simp only at c1
  have c2 := rainbow_p edgeF edgeV [1, 1, 2, 2]
  rw [edge_rbw] at c2
  simp only at c2
  have hcol : ∀ v ∈ edgeV, 0 ≤ v.1 := by decide
  have hlen : edgeV.length = 4 := rfl
  have hsh := edge_shl
  generalize edgeV = V at *
  (refine Fn.intro1 Tryz.func4 rfl rfl ?_; simp only [Tryz.ntmps4, List.length_cons, List.length_nil, Nat.reduceAdd, Nat.reduceSub, List.replicate_succ, List.replicate_zero, List.cons_append, List.nil_append])
  (repeat' (first | ((first | apply WL.opN | apply WD.opN); exact yF; dsimp only [setD, z0, z1]) | refine WL.nil ?_ | refine WC.seqK fun Kx hK => ?_ | (refine hK _ _ ?_; clear hK) | refine WC.region ?_ |  (refine WL.alloc (dst := some 1) tzSb (shape_X3 rfl rfl rfl) fun b1 => ?_; dsimp only [setD, z0, z1]) |  (refine WL.storeF tySb rfl (OpD.t rfl) shape_R3 ?_; dsimp only [setD, z0, z1]) |  (refine WL.allocS (dst := some 3) (zs := [.slice none 0 0, .slice none 0 0]) tzLb (by decide) (by simp [Value.oneCell']) fun b3 => ?_; dsimp only [setD, z0, z1, List.map_cons, List.map_nil]) |  (refine WL.storeW tyLb (OpD.t rfl) (OpD.t rfl) rfl rfl ?_; dsimp only [setD]) | ((first | apply WL.opG | apply WD.op); (focus (first | exact wN | (apply SYG.yes; (exact wY); ((first | (apply SY.call (edge_p) Tryz.call14; (exact aD)) | (apply SY.call (c1) Tryz.call13; (exact aD)) | (refine SY.fldA strSb (OpD.t rfl) R3_agg rfl rfl) | (exact SY.mkL0 (OpD.t rfl)) | (apply SY.len; (exact oD); (exact nD); (exact uD)) | (apply SY.extract; (exact oD); rfl) | fail); all_goals infer_instance)))); dsimp only [setD, z0, z1]) | refine WC.block ?_))
  refine WC.nilRow 3 RI ?_
  (refine WC.loopU (X := Nat × Value) (fun x => [(19, dI (x.1 : Int)), (5, dA), (20, dA), (21, dA), (22, dA), (23, dA), (24, dA), (25, dA), (26, dA), (27, dA), (28, dA), (29, dA), (30, dA), (31, dA)]) (fun x => (hRow x.2 3 RI ((V.take x.1).map fun v => ishl 1 v.1) :: hStr b3 39 [dS Verts V, dX x.2] :: [])) (fun x => V.length - x.1) (fun x => x.1 ≤ V.length) (0, .slice none 0 0) ?start ?frame0 ?objs0 ?round)
  case start => simp
  case frame0 => ((try dsimp only [upds, z0, z1]); repeat (first | exact LeF.nil | refine LeF.co (k := ?_)))
  case objs0 => rfl
  case round =>
    rintro ⟨i, u⟩ q1
    simp only at q1
    dsimp only [upds, z0, z1]
    have hul : ((V.take i).map fun v => ishl 1 v.1).length ≤ 100000 := by simp; omega
    by_cases hi : i < V.length
    · have hc := hcol V[i] (List.getElem_mem hi)
      ((repeat' (first |  (apply WC.drawTail 6; kernel_rfl; kernel_rfl; simp only [List.take_succ_cons, List.take_zero, List.drop_succ_cons, List.drop_zero]) | ((first | apply WL.opN | apply WD.opN); exact yF; dsimp only [setD, z0, z1]) | refine WL.nil ?_ | refine WD.nil ?_ | refine WC.seqK fun Kx hK => ?_ | (refine hK _ _ ?_; clear hK) | refine WC.region ?_ |  (refine WL.knowRow1 (.head _) fun h1 => WL.perm (List.Perm.swap _ _ _) (WL.storeS tyIn (OpD.t rfl) (OpD.t rfl) (shape_X h1) (by simp) (WL.perm (List.Perm.swap _ _ _) ?_)); dsimp only [setD, z0, z1]) | ((first | apply WL.appK | apply WL.app1); (exact eD); exact OpD.t rfl; (exact oD); decide; (exact lD); (intro _; dsimp only [setD, z0, z1]); all_goals (try infer_instance)) | (apply WL.alloc; (first | exact tzV | exact tzC); (first | exact shape_X rfl | exact shape_XV | exact shape_C0 rfl); (intro _; dsimp only [setD, z0, z1])) | (apply WL.storeF; (exact tD); rfl; (exact oD); (exact hD); dsimp only [setD, z0, z1]) | ((first | apply WL.opG | apply WD.op); (focus (first | exact wN | (apply SYG.yes; (exact wY); ((first | (refine SY.fldS strLb (OpD.t rfl) (by decide)) | (refine SY.loadS tyIn (OpD.t rfl) (.tail _ (.head _)) rfl) | (exact SY.shl OpD.i (OpD.t rfl) hc) | ((first | apply SY.move | apply SY.assign | apply SY.lss | apply SY.eql) <;> (exact oD)) | ((first | apply SY.add) <;> first | exact oD | omega) | (apply SY.ixK; (exact eD); (exact oD); (exact oD); exact kD) | (first | (apply SY.fld0 vxT <;> (exact oD)) | (apply SY.fld1 vxT <;> (exact oD)) | (apply SY.mkV0 vxT <;> (exact oD)) | (apply SY.mkV1 vxT <;> (exact oD)) | (apply SY.mkV vxT <;> (exact oD)) | (apply SY.eqlV vxT <;> (exact oD))) | (apply SY.build1'; (exact eD); ((try simp only [List.map_cons, List.map_nil]); (repeat (first | exact ElsD.nl | (apply ElsD.cn; (first | exact OpD.t rfl | exact OpD.i | exact OpD.b | exact OpD.tle rfl (by first | exact Dat.le_nil | exact Dat.le_nilK (by decide)) | exact ⟨Dat.le_nil⟩ | exact ⟨Dat.le_nilK (by decide)⟩))))); rfl; rfl; (intro _; first | exact shape_K | exact shape_I | exact shape_A | exact shape_B); (exact (by simp))) | fail); all_goals infer_instance)))); dsimp only [setD, z0, z1]) | (apply WC.condD; (exact oD); all_goals (intro h; try exact xD)) | refine WC.skip ?_ | refine WC.block ?_ | refine ThenD.n ?_)); all_goals (first | ((repeat clear hK); (repeat clear Kx))))
      all_goals try (exfalso; omega)
      (refine ⟨(i + 1, _) , ?_, by first | omega | (simp only; omega), by ((try simp only);  (rw [List.take_succ_eq_append_getElem hi, List.map_append, List.map_cons, List.map_nil])), ?_⟩; rotate_left; ((try dsimp only [upds, z0, z1]); repeat (first | exact LeF.nil | refine LeF.co (k := ?_))); (try dsimp only))
      omega
    · have hie : V.take i = V := List.take_of_length_le (by omega)
      rw [hie, hsh]
      refine WC.perm (List.Perm.swap _ _ _) (WC.keepS (k := 1) rfl ?_)
      dsimp only [z0, z1]
      ((repeat' (first | ((first | apply WL.opN | apply WD.opN); exact yF; dsimp only [setD, z0, z1]) | refine WL.nil ?_ | refine WC.seqK fun Kx hK => ?_ | (refine hK _ _ ?_; clear hK) | (refine Kont.skip ?_; clear hK) | refine WC.region ?_ | ((first | apply WL.opG | apply WD.op); (focus (first | exact wN | (apply SYG.yes; (exact wY); ((first | (refine SY.fldA strSb (OpD.t rfl) R3_agg rfl rfl) | (refine SY.loadCx tyC (OpD.t rfl)) | (refine SY.loadW tyLb (OpD.t rfl) (.head _) (by decide) rfl) | (apply SY.call c2 Tryz.call11; exact ArgsD.cons (OpD.t rfl) (ArgsD.cons (OpD.tle rfl agg_R2) ArgsD.nil)) | ((first | apply SY.move | apply SY.assign | apply SY.lss | apply SY.eql) <;> (exact oD)) | (apply SY.len; (exact oD); (exact nD); (exact uD)) | (apply SY.pickT; (exact oD); (with_reducible rfl); (exact oD)) | (apply SY.extract; (exact oD); rfl) | fail); all_goals infer_instance)))); dsimp only [setD, z0, z1]) | ((first | refine WL.caseP rfl rfl rfl (fun h => ?_) (fun h => ?_) | refine WL.caseN rfl rfl rfl (fun h => ?_) (fun h => ?_) | refine WL.caseB rfl rfl rfl (fun h => ?_) (fun h => ?_) | refine WD.caseP rfl rfl rfl (fun h => ?_) (fun h => ?_) | refine WD.caseN rfl rfl rfl (fun h => ?_) (fun h => ?_) | refine WD.caseB rfl rfl rfl (fun h => ?_) (fun h => ?_)) <;> (first | (exfalso; first | omega | contradiction) | (dsimp only [z0, z1]))) | (apply WC.condD; (exact oD); all_goals (intro h; try exact xD)) | refine WC.ret ?_ | refine WC.exit ?_)); all_goals (first | ((repeat clear hK); (repeat clear Kx))))
      all_goals try (exfalso; first | contradiction | omega)
      (refine ⟨trivial, _, rfl, ?_⟩; exact fD)
end Go.Proofs.YtmlikmldfdgmcaaGreat
