/- Part 42: walks by contracts, and plain laws. -/
import Derived.Test.YtjmignmnlpamjaaGreatVa41
set_option linter.unusedVariables false
set_option linter.unusedSimpArgs false
set_option linter.unusedSectionVars false
set_option maxRecDepth 100000
set_option maxHeartbeats 4000000
namespace Go.Proofs.YtjmignmnlpamjaaGreat
section
open Go.RowKit
set_option maxHeartbeats 8000000 in
theorem ZFF (V : Int) (l : List (List Int)) (a : List Int) (hr : IRR l) (hck : ZQ V l ≠ 0) :
  CallC Tryz.prog 57 ([dS Cls (V, l), dS ZW a] ++ ([] : List Value).map dX) [] (fun d hp2 => ∃ e2 e3, d = dT [e2, e3] /\ e2 = dX (.map none) /\ e3 = dI (ZQ V l) /\ hp2 = []) := by
 have h1 := ZBT V l hr
 generalize ZQ V l = q at h1 hck ⊢
 refine ZBb Tryz.func57 rfl rfl (fun hp => ?_)
 -- @kinds clauses.assignment
 simp only [Tryz.ntmps57, List.length_cons, List.length_nil, List.length_append, List.length_map, Nat.reduceAdd, Nat.reduceSub, List.replicate_succ, List.replicate_zero, List.cons_append, List.nil_append, List.map_cons, List.map_nil, List.append_assoc]
 ((repeat' (first | (apply WL.opN; exact yF; dsimp only [ZB, z0, z1]) | refine WL.nil ?_ | refine ZA fun Kx hK => ?_ | (refine hK _ _ ?_; clear hK) | refine WC.region ?_ | (apply ZJ; (focus (first | exact wN | (apply SYG.yes; (exact wY); ((first | (apply SY.call (h1) Tryz.call42; (exact aD)) | ((first | apply SY.move | apply SY.assign | apply SY.lss | apply SY.gtr | apply SY.neq) <;> (exact oD)) | (apply SY.box; (exact oD); (exact hD)) | fail); all_goals infer_instance)))); dsimp only [ZB, z0, z1]) | (apply ZO; (exact oD); all_goals (intro h; try exact xD)) | refine WC.ret ?_ | refine ThenD.r ?_)); all_goals (first | ((repeat clear hK); (repeat clear Kx))))
 all_goals try (exfalso; first | contradiction | omega)
 exact ⟨trivial, _, _, dX (.map none), dI q, [], rfl, rfl, Dat.le_refl _, ZAk rfl, rfl, rfl, rfl, rfl⟩
set_option maxHeartbeats 8000000 in
theorem ZIm (V : Int) (l : List (List Int)) (a : List Int) (hr : IRR l) (ha : ∀ x ∈ a, IR x) (hal : a.length ≤ 1000000) (he : ZFC V l a ≠ 0) : Fn Tryz.prog 23 [dS Cls (V, l), dS ZW a] (dT [dS Cls (0, []), dI (ZFC V l a)]) := by
 by_cases hck : ZQ V l = 0
 ·obtain ⟨hV0, hVm, hll, hcl⟩ := Zc hck
  obtain ⟨N, rfl⟩ : ∃ N : Nat, V = (N : Int) := ⟨V.toNat, by omega⟩
  have e : ZFC (N : Int) l a = ZEG (N : Int) [] a := by unfold ZFC; rw [if_neg (by simp [hck])]
  rw [e] at he ⊢
  have h1 := ZFE N l a (by omega) hr hck ha he hal
  generalize ZEG (N : Int) [] a = q at h1 he ⊢
  refine ZB9 tyV Tryz.func23 rfl rfl ?_
  -- @kinds clauses.Assign
  simp only [Tryz.ntmps23, List.length_cons, List.length_nil, Nat.reduceAdd, Nat.reduceSub, List.replicate_succ, List.replicate_zero, List.cons_append, List.nil_append]
  ((repeat' (first | ((first | apply WL.opN | apply WD.opN); exact yF; dsimp only [ZB, z0, z1]) | refine WL.nil ?_ | refine ZA fun Kx hK => ?_ | (refine hK _ _ ?_; clear hK) | refine WC.region ?_ |  (refine WL.alloc (dst := some 4) (T := 24) tzV ZBW fun b4 => ?_; dsimp only [ZB, z0, z1]) |  (refine WL.callC (hp1 := []) (caps := []) h1 Tryz.call57 OpD.f (ArgsD.cons (OpD.t rfl) (ArgsD.cons (OpD.t rfl) ArgsD.nil)) ?_; rintro d' hp2 ⟨e2, e3, rfl, rfl, rfl, bm, k, rfl⟩; dsimp only [ZB, z0, z1, List.cons_append, List.nil_append]) |  (refine WL.alloc (dst := some 6) (T := 88) tzVa (Z8 rfl) fun b6 => ?_; dsimp only [ZB, z0, z1]) |  (refine ZK (ZAD ZOO (OpD.t rfl) (OpD.t rfl) (Z8 rfl)) fun _ => ?_; dsimp only [ZB, z0, z1]) |  (refine WL.perm (ZAQ (i := 2) rfl) (ZAN tyV rfl (OpD.t rfl) (ZCM (by decide) rfl) ?_); dsimp only [ZB, z0, z1, List.eraseIdx_cons_succ, List.eraseIdx_cons_zero]) | ((first | apply WL.opN | apply WD.opN); (focus ((first | (exact ZFm) | ((first | apply SY.move | apply SY.assign | apply SY.neq) <;> (exact oD)) | (apply SY.extract; (exact oD); rfl) | (apply SY.box; (exact oD); (exact hD)) | fail); all_goals infer_instance)); dsimp only [ZB, z0, z1]) | (apply ZO; (exact oD); all_goals (intro h; try exact xD)) | refine WC.ret ?_ | refine ThenD.r ?_)); all_goals (first | ((repeat clear hK); (repeat clear Kx))))
  all_goals try (exfalso; first | contradiction | omega)
  exact ⟨trivial, ⟨_, rfl, FinD.le (ZD4 (Dat.le_refl _) ZD)⟩, _, rfl, FinD.le (ZAk rfl)⟩
 ·have e : ZFC V l a = ZQ V l := if_pos hck
  have h1 := ZFF V l a hr hck
  rw [e] at he ⊢
  generalize ZQ V l = q at h1 he ⊢
  refine ZB9 tyV Tryz.func23 rfl rfl ?_
  -- @kinds clauses.Assign
  simp only [Tryz.ntmps23, List.length_cons, List.length_nil, Nat.reduceAdd, Nat.reduceSub, List.replicate_succ, List.replicate_zero, List.cons_append, List.nil_append]
  ((repeat' (first | ((first | apply WL.opN | apply WD.opN); exact yF; dsimp only [ZB, z0, z1]) | refine WL.nil ?_ | refine ZA fun Kx hK => ?_ | (refine hK _ _ ?_; clear hK) | refine WC.region ?_ |  (refine WL.alloc (dst := some 4) (T := 24) tzV ZBW fun b4 => ?_; dsimp only [ZB, z0, z1]) |  (refine WL.callC (hp1 := []) (caps := []) h1 Tryz.call57 OpD.f (ArgsD.cons (OpD.t rfl) (ArgsD.cons (OpD.t rfl) ArgsD.nil)) ?_; rintro d' hp2 ⟨e2, e3, rfl, rfl, rfl, rfl⟩; dsimp only [ZB, z0, z1, List.cons_append, List.nil_append]) |  (refine WL.alloc (dst := some 6) (T := 88) tzVa (Z8 rfl) fun b6 => ?_; dsimp only [ZB, z0, z1]) |  (refine ZK (ZAD ZOO (OpD.t rfl) (OpD.t rfl) (Z8 rfl)) fun _ => ?_; dsimp only [ZB, z0, z1]) |  (refine WL.perm (ZAQ (i := 1) rfl) (ZAN tyV rfl (OpD.t rfl) (ZCM (by decide) rfl) ?_); dsimp only [ZB, z0, z1, List.eraseIdx_cons_succ, List.eraseIdx_cons_zero]) | ((first | apply WL.opN | apply WD.opN); (focus ((first | (exact ZFm) | ((first | apply SY.move | apply SY.assign | apply SY.neq) <;> (exact oD)) | (apply SY.extract; (exact oD); rfl) | (apply SY.box; (exact oD); (exact hD)) | fail); all_goals infer_instance)); dsimp only [ZB, z0, z1]) | (apply ZO; (exact oD); all_goals (intro h; try exact xD)) | refine WC.ret ?_ | refine ThenD.r ?_)); all_goals (first | ((repeat clear hK); (repeat clear Kx))))
  all_goals try (exfalso; first | contradiction | omega)
  exact ⟨trivial, ⟨_, rfl, FinD.le (ZD4 (Dat.le_refl _) ZD)⟩, _, rfl, FinD.le (ZAk rfl)⟩
set_option maxHeartbeats 8000000 in
theorem ZLA (V : Int) (l : List (List Int)) (a : List Int) (hr : IRR l) (ha : ∀ x ∈ a, IR x) (hal : a.length ≤ 1000000) (he : ZFC V l a ≠ 0) : Fn Tryz.prog 8 [dS Cls (V, l), dS ZW a] (dT [dI 0, dS ZW [], dS ZW [], dI (ZFC V l a)]) := by
 have h1 := ZIm V l a hr ha hal he
 generalize ZFC V l a = q at h1 he ⊢
 refine ZCq Tryz.func8 rfl rfl ?_
 -- @kinds solver.Under
 simp only [Tryz.ntmps8, List.length_cons, List.length_nil, Nat.reduceAdd, Nat.reduceSub, List.replicate_succ, List.replicate_zero, List.cons_append, List.nil_append]
 ((repeat' (first | (apply WL.opN; exact yF; dsimp only [ZB, z0, z1]) | refine WL.nil ?_ | refine ZA fun Kx hK => ?_ | (refine hK _ _ ?_; clear hK) | refine WC.region ?_ |  (refine WL.alloc (dst := some 8) (T := 24) tzV ZBW fun b8 => ?_; dsimp only [ZB, z0, z1]) |  (refine ZK (ZAD tyV (OpD.t rfl) (OpD.t rfl) ZBo) fun _ => ?_; dsimp only [ZB, z0, z1]) | (apply WL.opN; (focus ((first | (apply SY.call (h1) Tryz.call23; (exact aD)) | ((first | apply SY.move | apply SY.assign | apply SY.eql | apply SY.neq) <;> (exact oD)) | (apply SY.extract; (exact oD); rfl) | (apply SY.box; (exact oD); (exact hD)) | fail); all_goals infer_instance)); dsimp only [ZB, z0, z1]) | (apply ZO; (exact oD); all_goals (intro h; try exact xD)) | refine WC.ret ?_ | refine ThenD.r ?_)); all_goals (first | ((repeat clear hK); (repeat clear Kx))))
 all_goals try (exfalso; first | contradiction | omega)
 trace_state
 exact ⟨trivial, ⟨_, rfl, FinD.le (ZAk rfl)⟩, ⟨_, rfl, FinD.le ZD⟩, ⟨_, rfl, FinD.le ZD⟩, _, rfl, FinD.le (ZAk rfl)⟩
end
section
open Go.RowKit
theorem ZJG (V : Nat) (hV : V ≤ 4096) (m : List Int) (hM : IsM V m) : Fn Tryz.prog 11 [dI (V : Int), dS ZW m] (dI 0) := by
 have hl := hM.len
 have hlI : ¬ (m.length : Int) ≠ (V : Int) := by omega
 (refine Zb Tryz.func11 rfl rfl ?_; simp only [Tryz.ntmps11, List.length_cons, List.length_nil, Nat.reduceAdd, Nat.reduceSub, List.replicate_succ, List.replicate_zero, List.cons_append, List.nil_append])
 (repeat' (first | (apply WL.opN; exact yF; dsimp only [ZB, z0, z1]) | refine WL.nil ?_ | refine ZA fun Kx hK => ?_ | (refine hK _ _ ?_; clear hK) | refine WC.region ?_ | (apply ZJ; (focus (first | exact wN | (apply SYG.yes; (exact wY); ((first | ((first | apply SY.move | apply SY.assign | apply SY.lss | apply SY.neq) <;> (exact oD)) | (apply SY.len; (exact oD); (exact nD); (exact uD)) | fail); all_goals infer_instance)))); dsimp only [ZB, z0, z1]) | (apply ZO; (exact oD); all_goals (intro h; try exact xD)) | refine WC.skip ?_ | refine WC.block ?_))
 all_goals try (exfalso; first | contradiction | omega)
 (refine ZP (X := Nat) (fun k => [(5, dI (k : Int)), (4, dA), (10, dA), (11, dA), (12, dA), (13, dA), (14, dA), (15, dA), (16, dA), (17, dA), (18, dA), (19, dA), (20, dA), (21, dA), (22, dA), (23, dA), (24, dA), (25, dA), (26, dA), (27, dA), (28, dA), (29, dA), (30, dA), (31, dA), (32, dA)]) (fun k => []) (fun k => m.length - k) (fun k => k ≤ m.length) 0 ?start ?frame0 ?objs0 ?round)
 case start => exact Nat.zero_le _
 case frame0 => ((try dsimp only [ZX, z0, z1]); repeat (first | exact LeF.nil | refine ZG (k := ?_)))
 case objs0 => rfl
 case round =>
  rintro k hk
  dsimp only [ZX, z0, z1]
  by_cases hkl : k < m.length
  ·have hltk : (k : Int) < (m.length : Int) := by omega
   obtain ⟨x, hx⟩ : ∃ x, m[k] = x := ⟨_, rfl⟩
   have hxm := hM.at' k hkl
   rw [hx] at hxm
   by_cases hp : x = (k : Int) + 1
   ·have hp1 : ¬ x ≠ (k : Int) + 1 := fun q => q hp
    ((repeat' (first | (apply WL.opN; exact yF; dsimp only [ZB, z0, z1]) | refine WL.nil ?_ | refine ZA fun Kx hK => ?_ | (refine hK _ _ ?_; clear hK) | refine WC.region ?_ | (apply ZJ; (focus (first | exact wN | (apply SYG.yes; (exact wY); ((first | (refine Z0 (R := RI) (_gR := inferInstance) elI hkl hx (OpD.t rfl) (OpD.t rfl)) | ((first | apply SY.move | apply SY.assign | apply SY.lss | apply SY.neq) <;> (exact oD)) | ((first | apply SY.add | apply SY.sub) <;> first | exact oD | omega) | (apply SY.len; (exact oD); (exact nD); (exact uD)) | (apply Zp; (exact oD); (with_reducible rfl); (exact oD)) | fail); all_goals infer_instance)))); dsimp only [ZB, z0, z1]) | ((first | refine ZZ rfl rfl rfl (fun h => ?_) (fun h => ?_) | refine ZY rfl rfl rfl (fun h => ?_) (fun h => ?_) | refine ZV rfl rfl rfl (fun h => ?_) (fun h => ?_)) <;> (first | (exfalso; first | omega | contradiction) | (dsimp only [z0, z1]))) | (apply Zg; (exact oD); (with_reducible rfl)) | (apply ZC; (exact oD); all_goals (intro h; try exact xD)) | refine WC.skip ?_ | refine WC.block ?_ | refine ThenD.n ?_)); all_goals (first | ((repeat clear hK); (repeat clear Kx))))
    all_goals try (exfalso; first | contradiction | omega)
    (refine ⟨k + 1, ?_, by first | omega | (simp only; omega), rfl, ?_⟩; rotate_left; ((try dsimp only [ZX, z0, z1]); repeat (first | exact LeF.nil | refine ZG (k := ?_))); (try dsimp only))
    omega
   ·have hp1 : x ≠ (k : Int) + 1 := hp
    have hp2 : ¬ x ≠ -(k : Int) - 1 := by omega
    ((repeat' (first | (apply WL.opN; exact yF; dsimp only [ZB, z0, z1]) | refine WL.nil ?_ | refine ZA fun Kx hK => ?_ | (refine hK _ _ ?_; clear hK) | refine WC.region ?_ | (apply ZJ; (focus (first | exact wN | (apply SYG.yes; (exact wY); ((first | (refine Z0 (R := RI) (_gR := inferInstance) elI hkl hx (OpD.t rfl) (OpD.t rfl)) | (exact SY.neg (OpD.t rfl) (by omega)) | ((first | apply SY.move | apply SY.assign | apply SY.lss | apply SY.neq) <;> (exact oD)) | ((first | apply SY.add | apply SY.sub) <;> first | exact oD | omega) | (apply SY.load; (exact tD); (exact oD)) | (apply SY.len; (exact oD); (exact nD); (exact uD)) | (apply Z7; (exact oD); (with_reducible rfl); (exact oD)) | fail); all_goals infer_instance)))); dsimp only [ZB, z0, z1]) | ((first | refine ZZ rfl rfl rfl (fun h => ?_) (fun h => ?_) | refine ZY rfl rfl rfl (fun h => ?_) (fun h => ?_) | refine ZV rfl rfl rfl (fun h => ?_) (fun h => ?_)) <;> (first | (exfalso; first | omega | contradiction) | (dsimp only [z0, z1]))) | (apply ZC; (exact oD); all_goals (intro h; try exact xD)) | (apply ZO; (exact oD); all_goals (intro h; try exact xD)) | refine WC.skip ?_ | refine WC.block ?_ | refine ThenD.n ?_)); all_goals (first | ((repeat clear hK); (repeat clear Kx))))
    all_goals try (exfalso; first | contradiction | omega)
    (refine ⟨k + 1, ?_, by first | omega | (simp only; omega), rfl, ?_⟩; rotate_left; ((try dsimp only [ZX, z0, z1]); repeat (first | exact LeF.nil | refine ZG (k := ?_))); (try dsimp only))
    omega
  ·have hltk : ¬ (k : Int) < (m.length : Int) := by omega
   ((repeat' (first | (apply WL.opN; exact yF; dsimp only [ZB, z0, z1]) | refine WL.nil ?_ | refine ZA fun Kx hK => ?_ | (refine hK _ _ ?_; clear hK) | (refine Kont.skip ?_; clear hK) | refine WC.region ?_ | (apply ZJ; (focus (first | exact wN | (apply SYG.yes; (exact wY); ((first | ((first | apply SY.move | apply SY.assign | apply SY.lss | apply SY.neq) <;> (exact oD)) | (apply SY.len; (exact oD); (exact nD); (exact uD)) | fail); all_goals infer_instance)))); dsimp only [ZB, z0, z1]) | (apply ZC; (exact oD); all_goals (intro h; try exact xD)) | refine WC.ret ?_ | refine WC.exit ?_)); all_goals (first | ((repeat clear hK); (repeat clear Kx))))
   all_goals try (exfalso; first | contradiction | omega)
   (refine ⟨trivial, _, rfl, ?_⟩; exact fD)
end
section
open Go.RowKit
theorem ZLp {V : Int} {l : List (List Int)} (h : ZD7 V l = true) : V ≤ 10 \/ ZQ V l ≠ 0 := by
 unfold ZD7 at h
 simp only [Bool.and_eq_true, Bool.or_eq_true, decide_eq_true_eq] at h
 exact h.2
theorem CallC.underX {P : Program} {f : FuncId} {ds : List Dat} {V : Nat} {l : List (List Int)} {a : List Int} (h : CallC P f ds [] (fun d hp2 => hp2 = [] /\ ∃ e2 e3 e4 e5, d = dT [e2, e3, e4, e5] /\ ∃ v m c, e2 = dI v /\ e3 = dS ZW m /\ e4 = dS ZW c /\ e5 = dI 0 /\ ZEY V l a v m c)) :
  CallC P f ds [] (fun d hp2 => ∃ v m c, d = dT [dI v, dS ZW m, dS ZW c, dI 0] /\ hp2 = [] /\ ZEY V l a v m c) :=
 h.monoK fun d hp2 ⟨h1, e2, e3, e4, e5, h2, v, m, c, q1, q2, q3, q4, q5⟩ => ⟨v, m, c, by subst q1 q2 q3 q4; exact h2, h1, q5⟩
theorem ZM5 {V : Nat} {a c : List Int} (h : List.Sublist c a) (ha : Asn V a) : Asn V c := ⟨fun x hx => ha.rng x (h.subset hx), ha.dis.sublist h⟩
theorem ZJB {V : Nat} {m : List Int} (hl : m.length = V) (h : PosL m) : IsM V m := ⟨hl, fun k hk => by
 have := h k m[k] (List.getElem?_eq_getElem hk)
 omega⟩
theorem ZMM {x y : Int} {C A : List Int} (h : List.Sublist (x :: C) (y :: A)) (e : x ≠ y) : List.Sublist (x :: C) A := by
 cases h with
 | cons _ h => exact h
 | cons_cons _ h => exact absurd rfl e
theorem ZMN {c a : List Int} {i j : Nat} (hi : i < a.length) (hj : j < c.length) (h : List.Sublist (c.drop j) (a.drop i)) : (c[j] = a[i] -> List.Sublist (c.drop (j + 1)) (a.drop (i + 1))) /\ (c[j] ≠ a[i] -> List.Sublist (c.drop j) (a.drop (i + 1))) := by
 rw [List.drop_eq_getElem_cons hi, List.drop_eq_getElem_cons hj] at h
 constructor
 ·intro e
  rw [e] at h
  exact List.cons_sublist_cons.1 h
 ·intro e
  rw [List.drop_eq_getElem_cons hj]
  exact ZMM h e
set_option maxHeartbeats 8000000 in
theorem ZIn (N : Nat) (l : List (List Int)) (a : List Int) (hN : N ≤ 10) (hck : ZQ (N : Int) l = 0) (hA : Asn N a) (hal : a.length ≤ 20) (hf : Fn Tryz.prog 6 [dS Cls ((N : Int), l)] (dB true)) : Fn Tryz.prog 3 [dS Cls ((N : Int), l), dS ZW a] (dB true) := by
 have haw := ZHV
 obtain ⟨_, _, hll, hcl⟩ := Zc hck
 have hw : WfL N l := (Zs (by omega)).1 hcl
 have hlt : ¬ (a.length : Int) > 20 := by omega
 have hun := (ZHw N l a hN hck hA).underX
 have hru := ZK2 N l a (by omega) hck hA
 have hb : ∀ b, Asn N b -> ((Zu (N + 1) l b).isSome = true ↔ ∃ m ∈ ZB6 N l [], ∀ x ∈ b, x ∈ m) := fun b hB => ZDv (by omega) hw hB.lits (by
  unfold ZGR
  exact Nat.lt_succ_of_le (Nat.le_trans (List.length_filter_le _ _) (by simp)))
 have hsa := hb a hA
 (refine Zb Tryz.func3 rfl rfl ?_; simp only [Tryz.ntmps3, List.length_cons, List.length_nil, Nat.reduceAdd, Nat.reduceSub, List.replicate_succ, List.replicate_zero, List.cons_append, List.nil_append])
 (repeat' (first |  (refine WC.only 4 (Halt.go ?_)) | (apply WL.opN; exact yF; dsimp only [ZB, z0, z1]) | refine WL.nil ?_ | refine ZA fun Kx hK => ?_ | (refine hK _ _ ?_; clear hK) | refine WC.region ?_ |  (refine WL.callC (hp1 := []) (caps := []) hun Tryz.call8 OpD.f (ArgsD.cons (OpD.t rfl) (ArgsD.cons (OpD.t rfl) ArgsD.nil)) ?_; rintro d' hp2 ⟨v, m, c, rfl, rfl, hU⟩; dsimp only [ZB, z0, z1, List.cons_append, List.nil_append]) | (apply ZJ; (focus (first | exact wN | (apply SYG.yes; (exact wY); ((first | (apply SY.call (hf) Tryz.call6; (exact aD)) | ((first | apply SY.move | apply SY.assign | apply SY.lss | apply SY.gtr | apply SY.eql | apply SY.neq | apply SY.not) <;> (exact oD)) | (apply SY.len; (exact oD); (exact nD); (exact uD)) | (apply Zp; (exact oD); (with_reducible rfl); (exact oD)) | (apply SY.extract; (exact oD); rfl) | (apply SY.box; (exact oD); (exact hD)) | fail); all_goals infer_instance)))); dsimp only [ZB, z0, z1]) | ((first | refine ZZ rfl rfl rfl (fun h => ?_) (fun h => ?_) | refine ZY rfl rfl rfl (fun h => ?_) (fun h => ?_) | refine ZV rfl rfl rfl (fun h => ?_) (fun h => ?_)) <;> (first | (exfalso; first | omega | contradiction) | (dsimp only [z0, z1]))) | (apply ZC; (exact oD); all_goals (intro h; try exact xD)) | refine WC.skip ?_))
 all_goals try (exfalso; first | contradiction | omega)
 refine ⟨?_⟩
 rcases hU with ⟨rfl, rfl, hm, hx⟩ | ⟨rfl, rfl, hsub, hno⟩
 ·have hs := hsa.2 ⟨m, hm, hx⟩
  rw [hs] at hru
  obtain ⟨m1, m2, m3⟩ := ZCI.1 hm
  have hmod := ZJG N (by omega) m (ZJB m1 m2)
  have hwr := ZLJ l m
  have hwn : ZFh l m < 0 := of_decide_eq_true (by rw [ZJU]; exact List.all_eq_true.2 m3)
  generalize ZFh l m = wn at hwr hwn
  clear hun hsa hb
  (repeat' (first | (apply WL.opN; exact yF; dsimp only [ZB, z0, z1]) | refine WL.nil ?_ | refine ZA fun Kx hK => ?_ | (refine hK _ _ ?_; clear hK) | refine WC.region ?_ | (apply ZJ; (focus (first | exact wN | (apply SYG.yes; (exact wY); ((first | (apply SY.call (hru) Tryz.call9; (exact aD)) | ((first | apply SY.move | apply SY.assign | apply SY.lss | apply SY.gtr | apply SY.eql | apply SY.neq | apply SY.not) <;> (exact oD)) | (apply SY.len; (exact oD); (exact nD); (exact uD)) | (apply Zp; (exact oD); (with_reducible rfl); (exact oD)) | (apply SY.extract; (exact oD); rfl) | fail); all_goals infer_instance)))); dsimp only [ZB, z0, z1]) | ((first | refine ZZ rfl rfl rfl (fun h => ?_) (fun h => ?_) | refine ZY rfl rfl rfl (fun h => ?_) (fun h => ?_) | refine ZV rfl rfl rfl (fun h => ?_) (fun h => ?_)) <;> (first | (exfalso; first | omega | contradiction) | (dsimp only [z0, z1]))) | (apply ZC; (exact oD); all_goals (intro h; try exact xD)) | (apply ZO; (exact oD); all_goals (intro h; try exact xD)) | refine WC.skip ?_ | refine WC.block ?_))
  all_goals try (exfalso; first | contradiction | omega)
  (refine ZP (X := Nat) (fun k => [(56, dI (k : Int)), (4, dA), (14, dA), (57, dA), (58, dA), (59, dA), (60, dA), (61, dA), (62, dA), (63, dA), (64, dA)]) (fun k => []) (fun k => a.length - k) (fun k => k ≤ a.length) 0 ?start ?frame0 ?objs0 ?round)
  case start => exact Nat.zero_le _
  case frame0 => ((try dsimp only [ZX, z0, z1]); repeat (first | exact LeF.nil | refine ZG (k := ?_)))
  case objs0 => rfl
  case round =>
   rintro k hk
   dsimp only [ZX, z0, z1]
   by_cases hkl : k < a.length
   ·have hltk : (k : Int) < (a.length : Int) := by omega
    obtain ⟨x, hxk⟩ : ∃ x, a[k] = x := ⟨_, rfl⟩
    have hcn := ZCg m x
    rw [decide_eq_true (hx x (by rw [<- hxk]; exact List.getElem_mem hkl))] at hcn
    ((repeat' (first | (apply WL.opN; exact yF; dsimp only [ZB, z0, z1]) | refine WL.nil ?_ | refine ZA fun Kx hK => ?_ | (refine hK _ _ ?_; clear hK) | refine WC.region ?_ | (apply ZJ; (focus (first | exact wN | (apply SYG.yes; (exact wY); ((first | (refine Z0 (R := RI) (_gR := inferInstance) elI hkl hxk (OpD.t rfl) (OpD.t rfl)) | (apply SY.call (hcn) Tryz.call10; (exact aD)) | ((first | apply SY.move | apply SY.assign | apply SY.lss | apply SY.gtr | apply SY.eql | apply SY.neq | apply SY.not) <;> (exact oD)) | ((first | apply SY.add) <;> first | exact oD | omega) | fail); all_goals infer_instance)))); dsimp only [ZB, z0, z1]) | (apply ZC; (exact oD); all_goals (intro h; try exact xD)) | (apply ZL; (exact oD); all_goals (intro h; try exact xD)) | refine WC.skip ?_ | refine WC.block ?_ | refine ThenD.n ?_)); all_goals (first | ((repeat clear hK); (repeat clear Kx))))
    all_goals try (exfalso; first | contradiction | omega)
    (refine ⟨k + 1, ?_, by first | omega | (simp only; omega), rfl, ?_⟩; rotate_left; ((try dsimp only [ZX, z0, z1]); repeat (first | exact LeF.nil | refine ZG (k := ?_))); (try dsimp only))
    omega
   ·have hltk : ¬ (k : Int) < (a.length : Int) := by omega
    ((repeat' (first | (apply WL.opN; exact yF; dsimp only [ZB, z0, z1]) | refine WL.nil ?_ | refine ZA fun Kx hK => ?_ | (refine hK _ _ ?_; clear hK) | (refine Kont.skip ?_; clear hK) | refine WC.region ?_ | (apply ZJ; (focus (first | exact wN | (apply SYG.yes; (exact wY); ((first | (apply SY.call (hmod) Tryz.call11; (exact aD)) | (apply SY.call (hwr) Tryz.call12; (exact aD)) | (apply SY.call (haw) Tryz.call7; (exact aD)) | ((first | apply SY.move | apply SY.assign | apply SY.lss | apply SY.gtr | apply SY.eql | apply SY.neq | apply SY.not) <;> (exact oD)) | (apply SY.load; (exact tD); (exact oD)) | (apply SY.len; (exact oD); (exact nD); (exact uD)) | (apply ZT clT; exact OpD.t rfl) | (apply ZU clT; exact OpD.t rfl) | (apply Z7; (exact oD); (with_reducible rfl); (exact oD)) | fail); all_goals infer_instance)))); dsimp only [ZB, z0, z1]) | ((first | refine ZZ rfl rfl rfl (fun h => ?_) (fun h => ?_) | refine ZY rfl rfl rfl (fun h => ?_) (fun h => ?_) | refine ZV rfl rfl rfl (fun h => ?_) (fun h => ?_)) <;> (first | (exfalso; first | omega | contradiction) | (dsimp only [z0, z1]))) | (apply ZC; (exact oD); all_goals (intro h; try exact xD)) | refine WC.ret ?_ | refine WC.exit ?_ | refine ThenD.r ?_ | refine InBlockD.r ?_)); all_goals (first | ((repeat clear hK); (repeat clear Kx))))
    all_goals try (exfalso; first | contradiction | omega)
    (refine ⟨trivial, _, rfl, ?_⟩; exact fD)
 ·have hs : (Zu (N + 1) l a).isSome = false := by
   cases e : (Zu (N + 1) l a).isSome with
   | false => rfl
   | true =>
    obtain ⟨m, h1, h2⟩ := hsa.1 e
    exact absurd (fun x hx => h2 x (hsub.subset hx)) (hno m h1)
  rw [hs] at hru
  have hcA := ZM5 hsub hA
  have hsat := ZE0 N (by omega) l hw hll c hcA
  have hsc : (Zu (N + 1) l c).isSome = false := by
   cases e : (Zu (N + 1) l c).isSome with
   | false => rfl
   | true =>
    obtain ⟨m, h1, h2⟩ := (hb c hcA).1 e
    exact absurd h2 (hno m h1)
  rw [hsc] at hsat
  have hcl20 : c.length ≤ a.length := hsub.length_le
  clear hun hsa hb hno
  (repeat' (first | (apply WL.opN; exact yF; dsimp only [ZB, z0, z1]) | refine WL.nil ?_ | refine ZA fun Kx hK => ?_ | (refine hK _ _ ?_; clear hK) | refine WC.region ?_ | (apply ZJ; (focus (first | exact wN | (apply SYG.yes; (exact wY); ((first | (apply SY.call (hru) Tryz.call9; (exact aD)) | ((first | apply SY.move | apply SY.assign | apply SY.lss | apply SY.gtr | apply SY.eql | apply SY.neq | apply SY.not) <;> (exact oD)) | (apply SY.len; (exact oD); (exact nD); (exact uD)) | (apply Zp; (exact oD); (with_reducible rfl); (exact oD)) | (apply SY.extract; (exact oD); rfl) | fail); all_goals infer_instance)))); dsimp only [ZB, z0, z1]) | ((first | refine ZZ rfl rfl rfl (fun h => ?_) (fun h => ?_) | refine ZY rfl rfl rfl (fun h => ?_) (fun h => ?_) | refine ZV rfl rfl rfl (fun h => ?_) (fun h => ?_)) <;> (first | (exfalso; first | omega | contradiction) | (dsimp only [z0, z1]))) | (apply ZC; (exact oD); all_goals (intro h; try exact xD)) | (apply ZO; (exact oD); all_goals (intro h; try exact xD)) | refine WC.skip ?_ | refine WC.block ?_))
  all_goals try (exfalso; first | contradiction | omega)
  (refine ZP (X := Nat × Nat) (fun x => [(89, dI (x.1 : Int)), (15, dI (x.2 : Int)), (17, dA), (90, dA), (91, dA), (92, dA), (93, dA), (94, dA), (95, dA), (96, dA), (97, dA), (98, dA), (99, dA), (100, dA), (101, dA), (102, dA), (103, dA), (104, dA), (105, dA), (106, dA), (107, dA)]) (fun x => []) (fun x => a.length - x.1) (fun x => x.1 ≤ a.length /\ x.2 ≤ c.length /\ List.Sublist (c.drop x.2) (a.drop x.1)) (0, 0) ?start ?frame0 ?objs0 ?round)
  case start => exact ⟨Nat.zero_le _, Nat.zero_le _, hsub⟩
  case frame0 => ((try dsimp only [ZX, z0, z1]); repeat (first | exact LeF.nil | refine ZG (k := ?_)))
  case objs0 => rfl
  case round =>
   rintro ⟨k, j⟩ ⟨hk, hj, hS⟩
   simp only at hk hj hS
   dsimp only [ZX, z0, z1]
   by_cases hkl : k < a.length
   ·have hltk : (k : Int) < (a.length : Int) := by omega
    obtain ⟨x, hxk⟩ : ∃ x, a[k] = x := ⟨_, rfl⟩
    by_cases hjl : j < c.length
    ·have hltj : (j : Int) < (c.length : Int) := by omega
     obtain ⟨y, hyj⟩ : ∃ y, c[j] = y := ⟨_, rfl⟩
     obtain ⟨s1, s2⟩ := ZMN hkl hjl hS
     rw [hxk, hyj] at s1 s2
     by_cases hxy : y = x
     ·have s1 := s1 hxy
      ((repeat' (first | (apply WL.opN; exact yF; dsimp only [ZB, z0, z1]) | refine WL.nil ?_ | refine ZA fun Kx hK => ?_ | (refine hK _ _ ?_; clear hK) | refine WC.region ?_ | (apply ZJ; (focus (first | exact wN | (apply SYG.yes; (exact wY); ((first | (refine Z0 (R := RI) (_gR := inferInstance) elI hkl hxk (OpD.t rfl) (OpD.t rfl)) | (refine Z0 (R := RI) (_gR := inferInstance) elI hjl hyj (OpD.t rfl) (OpD.t rfl)) | ((first | apply SY.move | apply SY.assign | apply SY.lss | apply SY.gtr | apply SY.eql | apply SY.neq | apply SY.not) <;> (exact oD)) | ((first | apply SY.add) <;> first | exact oD | omega) | (apply SY.load; (exact tD); (exact oD)) | (apply SY.len; (exact oD); (exact nD); (exact uD)) | (apply Z7; (exact oD); (with_reducible rfl); (exact oD)) | fail); all_goals infer_instance)))); dsimp only [ZB, z0, z1]) | ((first | refine ZZ rfl rfl rfl (fun h => ?_) (fun h => ?_) | refine ZY rfl rfl rfl (fun h => ?_) (fun h => ?_) | refine ZV rfl rfl rfl (fun h => ?_) (fun h => ?_)) <;> (first | (exfalso; first | omega | contradiction) | (dsimp only [z0, z1]))) | (apply ZC; (exact oD); all_goals (intro h; try exact xD)) | refine WC.skip ?_ | refine WC.block ?_ | refine ThenD.n ?_)); all_goals (first | ((repeat clear hK); (repeat clear Kx))))
      all_goals try (exfalso; first | contradiction | omega)
      (refine ⟨(k + 1, j + 1), ?_, by first | omega | (simp only; omega), rfl, ?_⟩; rotate_left; ((try dsimp only [ZX, z0, z1]); repeat (first | exact LeF.nil | refine ZG (k := ?_))); (try dsimp only))
      exact ⟨by omega, by omega, s1⟩
     ·have s2 := s2 hxy
      ((repeat' (first | (apply WL.opN; exact yF; dsimp only [ZB, z0, z1]) | refine WL.nil ?_ | refine ZA fun Kx hK => ?_ | (refine hK _ _ ?_; clear hK) | refine WC.region ?_ | (apply ZJ; (focus (first | exact wN | (apply SYG.yes; (exact wY); ((first | (refine Z0 (R := RI) (_gR := inferInstance) elI hkl hxk (OpD.t rfl) (OpD.t rfl)) | (refine Z0 (R := RI) (_gR := inferInstance) elI hjl hyj (OpD.t rfl) (OpD.t rfl)) | ((first | apply SY.move | apply SY.assign | apply SY.lss | apply SY.gtr | apply SY.eql | apply SY.neq | apply SY.not) <;> (exact oD)) | ((first | apply SY.add) <;> first | exact oD | omega) | (apply SY.load; (exact tD); (exact oD)) | (apply SY.len; (exact oD); (exact nD); (exact uD)) | (apply Z7; (exact oD); (with_reducible rfl); (exact oD)) | fail); all_goals infer_instance)))); dsimp only [ZB, z0, z1]) | ((first | refine ZZ rfl rfl rfl (fun h => ?_) (fun h => ?_) | refine ZY rfl rfl rfl (fun h => ?_) (fun h => ?_) | refine ZV rfl rfl rfl (fun h => ?_) (fun h => ?_)) <;> (first | (exfalso; first | omega | contradiction) | (dsimp only [z0, z1]))) | (apply ZC; (exact oD); all_goals (intro h; try exact xD)) | refine WC.skip ?_ | refine WC.block ?_ | refine ThenD.n ?_)); all_goals (first | ((repeat clear hK); (repeat clear Kx))))
      all_goals try (exfalso; first | contradiction | omega)
      (refine ⟨(k + 1, j), ?_, by first | omega | (simp only; omega), rfl, ?_⟩; rotate_left; ((try dsimp only [ZX, z0, z1]); repeat (first | exact LeF.nil | refine ZG (k := ?_))); (try dsimp only))
      exact ⟨by omega, by omega, s2⟩
    ·have hltj : ¬ (j : Int) < (c.length : Int) := by omega
     have s3 : List.Sublist (c.drop j) (a.drop (k + 1)) := by rw [List.drop_of_length_le (by omega)]; exact List.nil_sublist _
     ((repeat' (first | (apply WL.opN; exact yF; dsimp only [ZB, z0, z1]) | refine WL.nil ?_ | refine ZA fun Kx hK => ?_ | (refine hK _ _ ?_; clear hK) | refine WC.region ?_ | (apply ZJ; (focus (first | exact wN | (apply SYG.yes; (exact wY); ((first | (refine Z0 (R := RI) (_gR := inferInstance) elI hkl hxk (OpD.t rfl) (OpD.t rfl)) | ((first | apply SY.move | apply SY.assign | apply SY.lss | apply SY.gtr | apply SY.eql | apply SY.neq | apply SY.not) <;> (exact oD)) | ((first | apply SY.add) <;> first | exact oD | omega) | (apply SY.len; (exact oD); (exact nD); (exact uD)) | (apply Zp; (exact oD); (with_reducible rfl); (exact oD)) | fail); all_goals infer_instance)))); dsimp only [ZB, z0, z1]) | ((first | refine ZZ rfl rfl rfl (fun h => ?_) (fun h => ?_) | refine ZY rfl rfl rfl (fun h => ?_) (fun h => ?_) | refine ZV rfl rfl rfl (fun h => ?_) (fun h => ?_)) <;> (first | (exfalso; first | omega | contradiction) | (dsimp only [z0, z1]))) | (apply Zg; (exact oD); (with_reducible rfl)) | (apply ZC; (exact oD); all_goals (intro h; try exact xD)) | refine WC.skip ?_ | refine WC.block ?_ | refine ThenD.n ?_)); all_goals (first | ((repeat clear hK); (repeat clear Kx))))
     all_goals try (exfalso; first | contradiction | omega)
     (refine ⟨(k + 1, j), ?_, by first | omega | (simp only; omega), rfl, ?_⟩; rotate_left; ((try dsimp only [ZX, z0, z1]); repeat (first | exact LeF.nil | refine ZG (k := ?_))); (try dsimp only))
     exact ⟨by omega, by omega, s3⟩
   ·have hltk : ¬ (k : Int) < (a.length : Int) := by omega
    have hjc : j = c.length := by
     rw [List.drop_of_length_le (i := k) (by omega)] at hS
     have := List.sublist_nil.1 hS
     have := List.drop_eq_nil_iff.1 this
     omega
    subst hjc
    ((repeat' (first | (apply WL.opN; exact yF; dsimp only [ZB, z0, z1]) | refine WL.nil ?_ | refine ZA fun Kx hK => ?_ | (refine hK _ _ ?_; clear hK) | (refine Kont.skip ?_; clear hK) | refine WC.region ?_ | (apply ZJ; (focus (first | exact wN | (apply SYG.yes; (exact wY); ((first | (apply SY.call (hsat) Tryz.call13; (exact aD)) | (apply SY.call (haw) Tryz.call7; (exact aD)) | ((first | apply SY.move | apply SY.assign | apply SY.lss | apply SY.gtr | apply SY.eql | apply SY.neq | apply SY.not) <;> (exact oD)) | (apply SY.load; (exact tD); (exact oD)) | (apply SY.len; (exact oD); (exact nD); (exact uD)) | (apply ZT clT; exact OpD.t rfl) | (apply ZU clT; exact OpD.t rfl) | (apply Z7; (exact oD); (with_reducible rfl); (exact oD)) | fail); all_goals infer_instance)))); dsimp only [ZB, z0, z1]) | ((first | refine ZZ rfl rfl rfl (fun h => ?_) (fun h => ?_) | refine ZY rfl rfl rfl (fun h => ?_) (fun h => ?_) | refine ZV rfl rfl rfl (fun h => ?_) (fun h => ?_)) <;> (first | (exfalso; first | omega | contradiction) | (dsimp only [z0, z1]))) | (apply ZC; (exact oD); all_goals (intro h; try exact xD)) | refine WC.ret ?_ | refine WC.exit ?_ | refine ThenD.r ?_ | refine InBlockD.r ?_)); all_goals (first | ((repeat clear hK); (repeat clear Kx))))
    all_goals try (exfalso; first | contradiction | omega)
    (refine ⟨trivial, _, rfl, ?_⟩; exact fD)
set_option maxHeartbeats 8000000 in
theorem assumes_p (V : Int) (l : List (List Int)) (a : List Int) (hr : IRR l) (ha : ∀ x ∈ a, IR x) : Fn Tryz.prog 3 [dS Cls (V, l), dS ZW a] (dB true) := by
 have haw := ZHV
 have hf := ZIK V l
 cases hq : ZD7 V l with
 | false =>
  rw [hq] at hf
  (refine Zb Tryz.func3 rfl rfl ?_; simp only [Tryz.ntmps3, List.length_cons, List.length_nil, Nat.reduceAdd, Nat.reduceSub, List.replicate_succ, List.replicate_zero, List.cons_append, List.nil_append])
  ((repeat' (first | (apply WL.opN; exact yF; dsimp only [ZB, z0, z1]) | refine WL.nil ?_ | refine ZA fun Kx hK => ?_ | (refine hK _ _ ?_; clear hK) | refine WC.region ?_ | (apply ZJ; (focus (first | exact wN | (apply SYG.yes; (exact wY); ((first | (apply SY.call (hf) Tryz.call6; (exact aD)) | (apply SY.call (haw) Tryz.call7; (exact aD)) | ((first | apply SY.move | apply SY.assign | apply SY.lss | apply SY.gtr | apply SY.eql | apply SY.neq | apply SY.not) <;> (exact oD)) | (apply Z7; (exact oD); (with_reducible rfl); (exact oD)) | (apply SY.box; (exact oD); (exact hD)) | fail); all_goals infer_instance)))); dsimp only [ZB, z0, z1]) | ((first | refine ZZ rfl rfl rfl (fun h => ?_) (fun h => ?_) | refine ZY rfl rfl rfl (fun h => ?_) (fun h => ?_) | refine ZV rfl rfl rfl (fun h => ?_) (fun h => ?_)) <;> (first | (exfalso; first | omega | contradiction) | (dsimp only [z0, z1]))) | (apply Zj; (exact oD); (with_reducible rfl)) | refine WC.ret ?_ | refine ThenD.r ?_)); all_goals (first | ((repeat clear hK); (repeat clear Kx))))
  all_goals try (exfalso; first | contradiction | omega)
  (refine ⟨trivial, _, rfl, ?_⟩; exact fD)
 | true =>
  rw [hq] at hf
  by_cases hal : a.length ≤ 20
  ·have hV := ZLp hq
   by_cases he : ZFC V l a = 0
   ·have h1 : ZQ V l = 0 := Classical.byContradiction fun q => q (by unfold ZFC at he; rw [if_pos q] at he; exact he)
    obtain ⟨N, rfl⟩ : ∃ N : Nat, V = (N : Int) := ⟨V.toNat, by have := (Zc h1).1; omega⟩
    have hN : N ≤ 10 := by rcases hV with hV | hV; omega; exact absurd h1 hV
    refine ZIn N l a hN h1 (ZNw (by omega) ?_) hal hf
    unfold ZFC at he
    rw [if_neg (by simp [h1])] at he
    exact he
   ·have hlt : ¬ (a.length : Int) > 20 := by omega
    have h1 := ZLA V l a hr ha (by omega) he
    have h2 := ZJJ V l a (by omega) he
    generalize ZFC V l a = q at h1 h2 he
    (refine Zb Tryz.func3 rfl rfl ?_; simp only [Tryz.ntmps3, List.length_cons, List.length_nil, Nat.reduceAdd, Nat.reduceSub, List.replicate_succ, List.replicate_zero, List.cons_append, List.nil_append])
    ((repeat' (first | (apply WL.opN; exact yF; dsimp only [ZB, z0, z1]) | refine WL.nil ?_ | refine ZA fun Kx hK => ?_ | (refine hK _ _ ?_; clear hK) | refine WC.region ?_ | (apply ZJ; (focus (first | exact wN | (apply SYG.yes; (exact wY); ((first | (apply SY.call (hf) Tryz.call6; (exact aD)) | (apply SY.call (h1) Tryz.call8; (exact aD)) | (apply SY.call (h2) Tryz.call9; (exact aD)) | (apply SY.call (haw) Tryz.call7; (exact aD)) | ((first | apply SY.move | apply SY.assign | apply SY.lss | apply SY.gtr | apply SY.eql | apply SY.neq | apply SY.not) <;> (exact oD)) | (apply SY.len; (exact oD); (exact nD); (exact uD)) | (apply Z7; (exact oD); (with_reducible rfl); (exact oD)) | (apply Zp; (exact oD); (with_reducible rfl); (exact oD)) | (apply SY.extract; (exact oD); rfl) | (apply SY.box; (exact oD); (exact hD)) | fail); all_goals infer_instance)))); dsimp only [ZB, z0, z1]) | ((first | refine ZZ rfl rfl rfl (fun h => ?_) (fun h => ?_) | refine ZY rfl rfl rfl (fun h => ?_) (fun h => ?_) | refine ZV rfl rfl rfl (fun h => ?_) (fun h => ?_)) <;> (first | (exfalso; first | omega | contradiction) | (dsimp only [z0, z1]))) | (apply ZC; (exact oD); all_goals (intro h; try exact xD)) | (apply ZO; (exact oD); all_goals (intro h; try exact xD)) | refine WC.skip ?_ | refine WC.ret ?_ | refine WC.block ?_)); all_goals (first | ((repeat clear hK); (repeat clear Kx))))
    all_goals try (exfalso; first | contradiction | omega)
    (refine ⟨trivial, _, rfl, ?_⟩; exact fD)
  ·have hlt : (a.length : Int) > 20 := by omega
   (refine Zb Tryz.func3 rfl rfl ?_; simp only [Tryz.ntmps3, List.length_cons, List.length_nil, Nat.reduceAdd, Nat.reduceSub, List.replicate_succ, List.replicate_zero, List.cons_append, List.nil_append])
   ((repeat' (first | (apply WL.opN; exact yF; dsimp only [ZB, z0, z1]) | refine WL.nil ?_ | refine ZA fun Kx hK => ?_ | (refine hK _ _ ?_; clear hK) | refine WC.region ?_ | (apply ZJ; (focus (first | exact wN | (apply SYG.yes; (exact wY); ((first | (apply SY.call (hf) Tryz.call6; (exact aD)) | (apply SY.call (haw) Tryz.call7; (exact aD)) | ((first | apply SY.move | apply SY.assign | apply SY.lss | apply SY.gtr | apply SY.eql | apply SY.neq | apply SY.not) <;> (exact oD)) | (apply SY.len; (exact oD); (exact nD); (exact uD)) | (apply Zp; (exact oD); (with_reducible rfl); (exact oD)) | (apply SY.box; (exact oD); (exact hD)) | fail); all_goals infer_instance)))); dsimp only [ZB, z0, z1]) | ((first | refine ZZ rfl rfl rfl (fun h => ?_) (fun h => ?_) | refine ZY rfl rfl rfl (fun h => ?_) (fun h => ?_) | refine ZV rfl rfl rfl (fun h => ?_) (fun h => ?_)) <;> (first | (exfalso; first | omega | contradiction) | (dsimp only [z0, z1]))) | (apply ZC; (exact oD); all_goals (intro h; try exact xD)) | refine WC.ret ?_ | refine ThenD.r ?_)); all_goals (first | ((repeat clear hK); (repeat clear Kx))))
   all_goals try (exfalso; first | contradiction | omega)
   (refine ⟨trivial, _, rfl, ?_⟩; exact fD)
end
end Go.Proofs.YtjmignmnlpamjaaGreat
