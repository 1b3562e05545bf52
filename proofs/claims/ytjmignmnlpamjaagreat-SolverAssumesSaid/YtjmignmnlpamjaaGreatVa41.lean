/- Part 41: walks by contracts, and plain laws. -/
import Derived.Test.YtjmignmnlpamjaaGreatVa40
set_option linter.unusedVariables false
set_option linter.unusedSimpArgs false
set_option linter.unusedSectionVars false
set_option maxRecDepth 100000
set_option maxHeartbeats 4000000
namespace Go.Proofs.YtjmignmnlpamjaaGreat
section
open Go.RowKit
theorem ZKw (V x : Int) (h1 : -9223372036854775807 ≤ V) (h2 : V ≤ 9223372036854775807) : Fn Tryz.prog 98 [dI V, dI x] (dB (ZA8 V x)) := ZC5 fun I w u v hu hv => by
 cases (hu : _ = _); cases (hv : _ = _)
 refine (ZKS V x w h1 h2).mono ?_
 rintro e w' ⟨rfl, rfl⟩
 exact ⟨_, rfl, Ext.refl _, rfl⟩
theorem ZKT {a : List Int} {k : Nat} {x : Int} : ZCS (a.take k) x = decide (x ∈ a.take k) := by
 by_cases h : x ∈ a.take k
 ·rw [ZA4.2 h, decide_eq_true h]
 ·rw [decide_eq_false h]; exact Bool.eq_false_iff.2 fun q => h (ZA4.1 q)
theorem ZDd {c l : List Int} {k : Nat} {b : Bool} (h : k < c.length) (hb : ZCS l (wrap64 (-c[k])) = b) (out : List Int) (ho : out ++ ZN (c.drop k) l = ZN c l) : (if b = true then out else out ++ [c[k]]) ++ ZN (c.drop (k + 1)) l = ZN c l := by
 rw [ZDc h, hb] at ho
 cases b with
 | true => exact ho
 | false => simp only [Bool.false_eq_true, if_false] at ho ⊢; rw [List.append_assoc]; exact ho
set_option maxHeartbeats 8000000 in
theorem ZMD (V : Nat) (hV : V ≤ 4096) (a : List Int) (hal : a.length ≤ 1000000) : Fn Tryz.prog 79 [dI (V : Int), dS ZW a] (dI (ZEG (V : Int) [] a)) := by
 (refine Zb Tryz.func79 rfl rfl ?_; simp only [Tryz.ntmps79, List.length_cons, List.length_nil, Nat.reduceAdd, Nat.reduceSub, List.replicate_succ, List.replicate_zero, List.cons_append, List.nil_append])
 (repeat' (first | ((first | apply WL.opN | apply WD.opN); exact yF; dsimp only [ZB, z0, z1]) | refine WL.nil ?_ | refine ZA fun Kx hK => ?_ | (refine hK _ _ ?_; clear hK) | refine WC.region ?_ | refine WC.block ?_))
 all_goals try (exfalso; first | contradiction | omega)
 (refine ZP (X := Nat) (fun k => [(5, dI (k : Int)), (4, dA), (6, dA), (7, dA), (8, dA), (9, dA), (10, dA), (11, dA), (12, dA), (13, dA), (14, dA), (15, dA), (16, dA), (17, dA), (18, dA), (19, dA), (20, dA), (21, dA), (22, dA), (23, dA), (24, dA), (25, dA), (26, dA), (27, dA), (28, dA), (29, dA), (30, dA), (31, dA), (32, dA), (33, dA), (34, dA), (35, dA), (36, dA), (37, dA)]) (fun k => []) (fun k => a.length - k) (fun k => k ≤ a.length /\ ZEG (V : Int) (a.take k) (a.drop k) = ZEG (V : Int) [] a) 0 ?start ?frame0 ?objs0 ?round)
 case start => exact ⟨Nat.zero_le _, rfl⟩
 case frame0 => ((try dsimp only [ZX, z0, z1]); repeat (first | exact LeF.nil | refine ZG (k := ?_)))
 case objs0 => rfl
 case round =>
  rintro k ⟨hk, hE⟩
  dsimp only [ZX, z0, z1]
  by_cases hkl : k < a.length
  ·have hltk : (k : Int) < (a.length : Int) := by omega
   obtain ⟨x, hx⟩ : ∃ x, a[k] = x := ⟨_, rfl⟩
   have hg := ZKw (V : Int) x (by omega) (by omega)
   have h1 : Fn Tryz.prog 84 [dS (Arr RI) (a.take k), dS RI x] (dB (ZCS (a.take k) x)) := ZEn (a.take k) x
   have h2 : Fn Tryz.prog 84 [dS (Arr RI) (a.take k), dI (-x)] (dB (ZCS (a.take k) (-x))) := ZEn (a.take k) (-x)
   rw [ZKT] at h1 h2
   rw [ZIA hkl, hx] at hE
   by_cases hgx : ZA8 (V : Int) x = true
   ·have hxr := ZBU.1 hgx
    rw [hgx] at hg
    rw [if_pos hgx] at hE
    have hxb : -4096 ≤ x /\ x ≤ 4096 := by omega
    by_cases m1 : x ∈ a.take k
    ·rw [decide_eq_true m1] at h1
     rw [if_pos (.inl m1)] at hE
     ((repeat' (first | ((first | apply WL.opN | apply WD.opN); exact yF; dsimp only [ZB, z0, z1]) | refine WL.nil ?_ | refine WD.nil ?_ | refine ZA fun Kx hK => ?_ | (refine hK _ _ ?_; clear hK) | refine WC.region ?_ | (apply WC.draw; kernel_rfl; kernel_rfl) | ((first | apply ZJ | apply WD.op); (focus (first | exact wN | (apply SYG.yes; (exact wY); ((first | (refine Z0 (R := RI) (_gR := inferInstance) elI hkl hx (OpD.t rfl) (OpD.t rfl)) | (apply SY.call (hg) Tryz.call98; (exact aD)) | (exact ZEM (R := RI) (_gR := inferInstance) (l := k) elI (OpD.t rfl) (OpD.t rfl) rfl hk) | (apply SY.call (h1) Tryz.call84; (exact aD)) | ((first | apply SY.move | apply SY.assign | apply SY.lss | apply SY.not) <;> (exact oD)) | (apply SY.len; (exact oD); (exact nD); (exact uD)) | (apply Z7; (exact oD); (with_reducible rfl); (exact oD)) | fail); all_goals infer_instance)))); dsimp only [ZB, z0, z1]) | (apply Zj; (exact oD); (with_reducible rfl)) | (apply ZC; (exact oD); all_goals (intro h; try exact xD)) | (apply ZL; (exact oD); all_goals (intro h; try exact xD)) | refine WC.skip ?_ | refine WC.ret ?_ | refine WC.block ?_ | refine ThenD.r ?_ | refine InBlockD.r ?_)); all_goals (first | ((repeat clear hK); (repeat clear Kx))))
     all_goals try (exfalso; first | contradiction | omega)
     (refine ⟨trivial, _, rfl, ?_⟩; refine ZBP ?_)
     all_goals exact hE
    ·rw [decide_eq_false m1] at h1
     by_cases m2 : -x ∈ a.take k
     ·rw [decide_eq_true m2] at h2
      rw [if_pos (.inr m2)] at hE
      ((repeat' (first | ((first | apply WL.opN | apply WD.opN); exact yF; dsimp only [ZB, z0, z1]) | refine WL.nil ?_ | refine WD.nil ?_ | refine ZA fun Kx hK => ?_ | (refine hK _ _ ?_; clear hK) | refine WC.region ?_ | (apply WC.draw; kernel_rfl; kernel_rfl) | ((first | apply ZJ | apply WD.op); (focus (first | exact wN | (apply SYG.yes; (exact wY); ((first | (refine Z0 (R := RI) (_gR := inferInstance) elI hkl hx (OpD.t rfl) (OpD.t rfl)) | (apply SY.call (hg) Tryz.call98; (exact aD)) | (exact ZEM (R := RI) (_gR := inferInstance) (l := k) elI (OpD.t rfl) (OpD.t rfl) rfl hk) | (apply SY.call (h1) Tryz.call84; exact ArgsD.cons (OpD.t rfl) (ArgsD.cons (OpD.t rfl) (ArgsD.nil))) | (apply SY.call (h2) Tryz.call84; exact ArgsD.cons (OpD.t rfl) (ArgsD.cons (OpD.t rfl) (ArgsD.nil))) | (exact SY.neg (OpD.t rfl) (by omega)) | ((first | apply SY.move | apply SY.assign | apply SY.lss | apply SY.not) <;> (exact oD)) | (apply SY.load; (exact tD); (exact oD)) | (apply SY.len; (exact oD); (exact nD); (exact uD)) | (apply Zp; (exact oD); (with_reducible rfl); (exact oD)) | fail); all_goals infer_instance)))); dsimp only [ZB, z0, z1]) | (apply Zj; (exact oD); (with_reducible rfl)) | (apply ZC; (exact oD); all_goals (intro h; try exact xD)) | (apply ZL; (exact oD); all_goals (intro h; try exact xD)) | refine WC.skip ?_ | refine WC.ret ?_ | refine WC.block ?_ | refine ThenD.r ?_ | refine InBlockD.r ?_)); all_goals (first | ((repeat clear hK); (repeat clear Kx))))
      all_goals try (exfalso; first | contradiction | omega)
      (refine ⟨trivial, _, rfl, ?_⟩; refine ZBP ?_)
      all_goals exact hE
     ·rw [decide_eq_false m2] at h2
      rw [if_neg (by rintro (q | q); exact m1 q; exact m2 q)] at hE
      ((repeat' (first | ((first | apply WL.opN | apply WD.opN); exact yF; dsimp only [ZB, z0, z1]) | refine WL.nil ?_ | refine WD.nil ?_ | refine ZA fun Kx hK => ?_ | (refine hK _ _ ?_; clear hK) | refine WC.region ?_ | (apply WC.draw; kernel_rfl; kernel_rfl) | ((first | apply ZJ | apply WD.op); (focus (first | exact wN | (apply SYG.yes; (exact wY); ((first | (refine Z0 (R := RI) (_gR := inferInstance) elI hkl hx (OpD.t rfl) (OpD.t rfl)) | (apply SY.call (hg) Tryz.call98; (exact aD)) | (exact ZEM (R := RI) (_gR := inferInstance) (l := k) elI (OpD.t rfl) (OpD.t rfl) rfl hk) | (apply SY.call (h1) Tryz.call84; exact ArgsD.cons (OpD.t rfl) (ArgsD.cons (OpD.t rfl) (ArgsD.nil))) | (apply SY.call (h2) Tryz.call84; exact ArgsD.cons (OpD.t rfl) (ArgsD.cons (OpD.t rfl) (ArgsD.nil))) | (exact SY.neg (OpD.t rfl) (by omega)) | ((first | apply SY.move | apply SY.assign | apply SY.lss | apply SY.not) <;> (exact oD)) | ((first | apply SY.add) <;> first | exact oD | omega) | (apply SY.load; (exact tD); (exact oD)) | (apply SY.len; (exact oD); (exact nD); (exact uD)) | (apply Zp; (exact oD); (with_reducible rfl); (exact oD)) | fail); all_goals infer_instance)))); dsimp only [ZB, z0, z1]) | (apply Zg; (exact oD); (with_reducible rfl)) | (apply ZC; (exact oD); all_goals (intro h; try exact xD)) | (apply ZL; (exact oD); all_goals (intro h; try exact xD)) | refine WC.skip ?_ | refine WC.block ?_ | refine ThenD.n ?_)); all_goals (first | ((repeat clear hK); (repeat clear Kx))))
      all_goals try (exfalso; first | contradiction | omega)
      (refine ⟨k + 1, ?_, by first | omega | (simp only; omega), rfl, ?_⟩; rotate_left; ((try dsimp only [ZX, z0, z1]); repeat (first | exact LeF.nil | refine ZG (k := ?_))); (try dsimp only))
      exact ⟨by omega, hE⟩
   ·rw [if_neg hgx] at hE
    rw [Bool.eq_false_iff.2 hgx] at hg
    ((repeat' (first | ((first | apply WL.opN | apply WD.opN); exact yF; dsimp only [ZB, z0, z1]) | refine WL.nil ?_ | refine ZA fun Kx hK => ?_ | (refine hK _ _ ?_; clear hK) | refine WC.region ?_ | ((first | apply ZJ | apply WD.op); (focus (first | exact wN | (apply SYG.yes; (exact wY); ((first | (refine Z0 (R := RI) (_gR := inferInstance) elI hkl hx (OpD.t rfl) (OpD.t rfl)) | (apply SY.call (hg) Tryz.call98; (exact aD)) | ((first | apply SY.move | apply SY.assign | apply SY.lss | apply SY.not) <;> (exact oD)) | (apply SY.len; (exact oD); (exact nD); (exact uD)) | fail); all_goals infer_instance)))); dsimp only [ZB, z0, z1]) | (apply ZC; (exact oD); all_goals (intro h; try exact xD)) | (apply ZL; (exact oD); all_goals (intro h; try exact xD)) | refine WC.skip ?_ | refine WC.ret ?_ | refine WC.block ?_ | refine ThenD.r ?_ | refine InBlockD.r ?_)); all_goals (first | ((repeat clear hK); (repeat clear Kx))))
    all_goals try (exfalso; first | contradiction | omega)
    (refine ⟨trivial, _, rfl, ?_⟩; refine ZBP ?_)
    all_goals exact hE
  ·have hltk : ¬ (k : Int) < (a.length : Int) := by omega
   obtain rfl : k = a.length := by omega
   rw [List.drop_length] at hE
   ((repeat' (first | ((first | apply WL.opN | apply WD.opN); exact yF; dsimp only [ZB, z0, z1]) | refine WL.nil ?_ | refine ZA fun Kx hK => ?_ | (refine hK _ _ ?_; clear hK) | (refine Kont.skip ?_; clear hK) | refine WC.region ?_ | ((first | apply ZJ | apply WD.op); (focus (first | exact wN | (apply SYG.yes; (exact wY); ((first | ((first | apply SY.move | apply SY.assign | apply SY.lss | apply SY.not) <;> (exact oD)) | (apply SY.len; (exact oD); (exact nD); (exact uD)) | fail); all_goals infer_instance)))); dsimp only [ZB, z0, z1]) | (apply ZC; (exact oD); all_goals (intro h; try exact xD)) | refine WC.ret ?_ | refine WC.exit ?_)); all_goals (first | ((repeat clear hK); (repeat clear Kx))))
   all_goals try (exfalso; first | contradiction | omega)
   (refine ⟨trivial, _, rfl, ?_⟩; refine ZBP ?_)
   all_goals exact hE
set_option maxHeartbeats 8000000 in
theorem ZG4 (V : Nat) (hV : V ≤ 4096) (c a : List Int) (hc : ∀ x ∈ c, x ≠ 0 /\ x.natAbs ≤ V) (hcl : c.length ≤ 1000000) : Fn Tryz.prog 80 [dS ZW c, dS ZW a] (dS ZW (ZN c a)) := by
 (refine Zb Tryz.func80 rfl rfl ?_; simp only [Tryz.ntmps80, List.length_cons, List.length_nil, Nat.reduceAdd, Nat.reduceSub, List.replicate_succ, List.replicate_zero, List.cons_append, List.nil_append])
 refine ZAH 3 RI ?_
 (repeat' (first | (apply WL.opN; exact yF; dsimp only [ZB, z0, z1]) | refine WL.nil ?_ | refine ZA fun Kx hK => ?_ | (refine hK _ _ ?_; clear hK) | refine WC.region ?_ | refine WC.block ?_))
 all_goals try (exfalso; first | contradiction | omega)
 (refine ZP (X := Nat × Value × List Int) (fun x => [(6, dI (x.1 : Int)), (5, dX x.2.1), (7, dA), (8, dA), (9, dA), (10, dA), (11, dA), (12, dA), (13, dA), (14, dA), (15, dA), (16, dA), (17, dA), (18, dA), (19, dA), (20, dA), (21, dA), (22, dA), (23, dA), (24, dA), (25, dA), (26, dA), (27, dA)]) (fun x => ([ZS x.2.1 3 RI x.2.2])) (fun x => c.length - x.1) (fun x => x.1 ≤ c.length /\ x.2.2.length ≤ x.1 /\ x.2.2 ++ ZN (c.drop x.1) a = ZN c a) (0, ZCX, []) ?start ?frame0 ?objs0 ?round)
 case start => exact ⟨Nat.zero_le _, Nat.zero_le _, rfl⟩
 case frame0 => ((try dsimp only [ZX, z0, z1]); repeat (first | exact LeF.nil | refine ZG (k := ?_)))
 case objs0 => rfl
 case round =>
  rintro ⟨i, vo, out⟩ ⟨hi, hol, ho⟩
  simp only at hi hol ho
  dsimp only [ZX, z0, z1]
  by_cases hil : i < c.length
  ·have hlti : (i : Int) < (c.length : Int) := by omega
   obtain ⟨x, hx⟩ : ∃ x, c[i] = x := ⟨_, rfl⟩
   have hxr := hc x (by rw [<- hx]; exact List.getElem_mem hil)
   have hh := ZEn a (-x)
   have h8 : (out.length + 1) * 8 ≤ 140737488355328 := by omega
   have hw : wrap64 (-x) = -x := ZC4 hV hxr.2
   cases hha : ZCS a (-x) with
   | true =>
    rw [hha] at hh
    have h2 := ZDd (b := true) hil (by rw [hx, hw]; exact hha) out ho
    ((repeat' (first | (apply WL.opN; exact yF; dsimp only [ZB, z0, z1]) | refine WL.nil ?_ | refine ZA fun Kx hK => ?_ | (refine hK _ _ ?_; clear hK) | refine WC.region ?_ | (apply WL.opN; (focus ((first | (refine Z0 (R := RI) (_gR := inferInstance) elI hil hx (OpD.t rfl) (OpD.t rfl)) | (exact SY.neg (OpD.t rfl) (by omega)) | (apply SY.call (hh) Tryz.call84; (exact aD)) | ((first | apply SY.move | apply SY.assign | apply SY.lss | apply SY.not) <;> (exact oD)) | ((first | apply SY.add) <;> first | exact oD | omega) | (apply SY.len; (exact oD); (exact nD); (exact uD)) | fail); all_goals infer_instance)); dsimp only [ZB, z0, z1]) | (apply ZC; (exact oD); all_goals (intro h; try exact xD)) | (apply ZL; (exact oD); all_goals (intro h; try exact xD)) | refine WC.skip ?_ | refine WC.block ?_ | refine ThenD.n ?_)); all_goals (first | ((repeat clear hK); (repeat clear Kx))))
    all_goals try (exfalso; first | contradiction | omega)
    (refine ⟨(i + 1, _, _), ?_, by first | omega | (simp only; omega), rfl, ?_⟩; rotate_left; ((try dsimp only [ZX, z0, z1]); repeat (first | exact LeF.nil | refine ZG (k := ?_))); (try dsimp only))
    exact ⟨by omega, by omega, h2⟩
   | false =>
    rw [hha] at hh
    have h2 := ZDd (b := false) hil (by rw [hx, hw]; exact hha) out ho
    rw [hx] at h2
    ((repeat' (first | (apply WL.opN; exact yF; dsimp only [ZB, z0, z1]) | refine WL.nil ?_ | refine ZA fun Kx hK => ?_ | (refine hK _ _ ?_; clear hK) | refine WC.region ?_ | ((first | apply WL.pushK | apply ZAS); (exact eD); exact OpD.t rfl; (exact oD); (intro _; exact hD); (exact (by simp)); (exact (by simp)); (first | exact ⟨by decide, by decide⟩ | skip); decide; (exact lD); (intro _; dsimp only [ZB, z0, z1]); all_goals (try infer_instance)) | (apply WL.opN; (focus ((first | (refine Z0 (R := RI) (_gR := inferInstance) elI hil hx (OpD.t rfl) (OpD.t rfl)) | (exact SY.neg (OpD.t rfl) (by omega)) | (apply SY.call (hh) Tryz.call84; (exact aD)) | ((first | apply SY.move | apply SY.assign | apply SY.lss | apply SY.not) <;> (exact oD)) | ((first | apply SY.add) <;> first | exact oD | omega) | (apply SY.len; (exact oD); (exact nD); (exact uD)) | fail); all_goals infer_instance)); dsimp only [ZB, z0, z1]) | (apply ZC; (exact oD); all_goals (intro h; try exact xD)) | (apply ZL; (exact oD); all_goals (intro h; try exact xD)) | refine WC.skip ?_ | refine WC.block ?_ | refine ThenD.n ?_)); all_goals (first | ((repeat clear hK); (repeat clear Kx))))
    all_goals try (exfalso; first | contradiction | omega)
    (refine ⟨(i + 1, _, _), ?_, by first | omega | (simp only; omega), rfl, ?_⟩; rotate_left; ((try dsimp only [ZX, z0, z1]); repeat (first | exact LeF.nil | refine ZG (k := ?_))); (try dsimp only))
    exact ⟨by omega, by simp; omega, h2⟩
  ·have hlti : ¬ (i : Int) < (c.length : Int) := by omega
   obtain rfl : i = c.length := by omega
   rw [List.drop_length, ZN, List.append_nil] at ho
   subst ho
   (repeat' (first |  (refine WC.only 7 (Halt.go ?_)) | (apply WL.opN; exact yF; dsimp only [ZB, z0, z1]) | refine WL.nil ?_ | refine ZA fun Kx hK => ?_ | (refine hK _ _ ?_; clear hK) | (refine Kont.skip ?_; clear hK) | refine WC.region ?_ | (apply WL.opN; (focus ((first | ((first | apply SY.move | apply SY.assign | apply SY.lss | apply SY.not) <;> (exact oD)) | (apply SY.len; (exact oD); (exact nD); (exact uD)) | fail); all_goals infer_instance)); dsimp only [ZB, z0, z1]) | (apply ZC; (exact oD); all_goals (intro h; try exact xD)) | refine WC.exit ?_))
   all_goals try (exfalso; first | contradiction | omega)
   refine ⟨ZA2 (s := 5) rfl ?_⟩
   dsimp only [z0, z1]
   ((repeat' (first | (apply WL.opN; exact yF; dsimp only [ZB, z0, z1]) | refine WL.nil ?_ | (refine hK _ _ ?_; clear hK) | refine WC.region ?_ | refine WC.ret ?_)); all_goals (first | ((repeat clear hK); (repeat clear Kx))))
   all_goals try (exfalso; first | contradiction | omega)
   (refine ⟨trivial, _, rfl, ?_⟩; exact fD)
end
section
open Go.RowKit
def ZLz (l : List (List Int)) (a : List Int) : List (List Int) := (l.filter fun c => !Zx c a).map fun c => ZN c a
theorem ZKb {l : List (List Int)} {a : List Int} {k : Nat} (h : k < l.length) : ZLz (l.take (k + 1)) a = ZLz (l.take k) a ++ (if Zx l[k] a = true then [] else [ZN l[k] a]) := by
 unfold ZLz
 rw [List.take_succ_eq_append_getElem h, List.filter_append, List.map_append]
 congr 1
 cases e : Zx l[k] a <;> simp [e]
theorem ZL0 (l : List (List Int)) (a : List Int) : (ZLz l a).length ≤ l.length := by
 unfold ZLz
 rw [List.length_map]
 exact List.length_filter_le _ _
def ZLb (V : Int) (l : List (List Int)) (a : List Int) : Int × List (List Int) := if ZFC V l a = 0 then (V, ZLz l a) else (0, [])
set_option maxHeartbeats 8000000 in
theorem ZEy (V : Int) (l : List (List Int)) (a : List Int) (hal : a.length ≤ 1000000) : Fn Tryz.prog 35 [dS Cls (V, l), dS ZW a] (dT [dS Cls (ZLb V l a), dI (ZFC V l a)]) := by
 have h1 := ZCx V l
 by_cases hck : ZQ V l = 0
 ·obtain ⟨hV0, hVm, hll, hcl⟩ := Zc hck
  obtain ⟨N, rfl⟩ : ∃ N : Nat, V = (N : Int) := ⟨V.toNat, by omega⟩
  have hN : N ≤ 4096 := by omega
  have hw : WfL N l := (Zs hN).1 hcl
  have h2 := ZMD N hN a hal
  have e : ZFC (N : Int) l a = ZEG (N : Int) [] a := by unfold ZFC; rw [if_neg (by simp [hck])]
  rw [hck] at h1
  refine ZB9 tyV Tryz.func35 rfl rfl ?_
  -- @kinds ref41.Assign
  simp only [Tryz.ntmps35, List.length_cons, List.length_nil, Nat.reduceAdd, Nat.reduceSub, List.replicate_succ, List.replicate_zero, List.cons_append, List.nil_append]
  by_cases ha : ZEG (N : Int) [] a = 0
  ·have e2 : ZLb (N : Int) l a = ((N : Int), ZLz l a) := by unfold ZLb; rw [if_pos (by rw [e]; exact ha)]
   rw [e2, e, ha]
   rw [ha] at h2
   clear e e2
   (repeat' (first | ((first | apply WL.opN | apply WD.opN); exact yF; dsimp only [ZB, z0, z1]) | refine WL.nil ?_ | refine ZA fun Kx hK => ?_ | (refine hK _ _ ?_; clear hK) | refine WC.region ?_ |  (refine WL.alloc (dst := some 4) (T := 24) tzV ZBp fun b4 => ?_; dsimp only [ZB, z0, z1]) |  (refine WL.alloc (dst := some 8) (T := 24) tzV ZBp fun b8 => ?_; dsimp only [ZB, z0, z1]) |  (refine ZH6 (zs := [.int .i64 0, .slice none 0 0]) (by decide) (by simp [Value.oneCell']) (ZJt tyV (OpD.t rfl) (OpD.t rfl) rfl rfl ?_); dsimp only [ZB, z0, z1]) | ((first | apply WL.opN | apply WD.opN); (focus ((first | (apply SY.call (h1) Tryz.call29; (exact aD)) | (apply SY.call (h2) Tryz.call79; (exact aD)) | (exact ZMv (OpD.t rfl)) | ((first | apply SY.move | apply SY.assign | apply SY.lss | apply SY.neq | apply SY.not) <;> (exact oD)) | (apply ZT clT; exact OpD.t rfl) | (apply ZU clT; exact OpD.t rfl) | (apply SY.box; (exact oD); (exact hD)) | fail); all_goals infer_instance)); dsimp only [ZB, z0, z1]) | (apply ZO; (exact oD); all_goals (intro h; try exact xD)) | refine WC.skip ?_ | refine WC.block ?_))
   all_goals try (exfalso; first | contradiction | omega)
   refine ZAH 25 ZW ?_
   refine WC.perm (List.Perm.swap _ _ _) ?_
   (refine ZP (X := Nat × Value) (fun x => [(9, dI (x.1 : Int)), (27, dA), (28, dA), (29, dA), (30, dA), (31, dA), (32, dA), (33, dA), (34, dA), (35, dA), (36, dA), (37, dA), (38, dA), (39, dA), (40, dA), (41, dA), (42, dA), (43, dA), (44, dA), (45, dA), (46, dA), (47, dA), (48, dA), (49, dA), (50, dA), (51, dA), (52, dA), (53, dA)]) (fun x => ([ZBx b8 24 [dI (N : Int), dX x.2], ZS x.2 25 ZW (ZLz (l.take x.1) a), ZAB b4 24 2 true (dX (.agg #[.int .i64 0, .slice none 0 0]))])) (fun x => l.length - x.1) (fun x => x.1 ≤ l.length) (0, ZCX) ?start ?frame0 ?objs0 ?round)
   case start => exact Nat.zero_le _
   case frame0 => ((try dsimp only [ZX, z0, z1]); repeat (first | exact LeF.nil | refine ZG (k := ?_)))
   case objs0 => rfl
   case round =>
    rintro ⟨i, vo⟩ hi
    simp only at hi
    dsimp only [ZX, z0, z1]
    by_cases hil : i < l.length
    ·have hlti : (i : Int) < (l.length : Int) := by omega
     obtain ⟨c, hc⟩ : ∃ c, l[i] = c := ⟨_, rfl⟩
     have hcw := hw c (by rw [<- hc]; exact List.getElem_mem hil)
     have hcn : c.length ≤ N := S43.trail_len hcw.rng (hcw.inc.imp fun h => by omega)
     have ht := ZGL c a
     have hwo := ZG4 N hN c a hcw.rng (by omega)
     have et := ZKb (a := a) hil
     have hln := ZL0 (l.take i) a
     rw [List.length_take] at hln
     have h24 : ((ZLz (l.take i) a).length + 1) * 24 ≤ 140737488355328 := by omega
     rw [hc] at et
     cases htr : Zx c a with
     | true =>
      rw [htr] at ht
      rw [if_pos htr, List.append_nil] at et
      ((repeat' (first | ((first | apply WL.opN | apply WD.opN); exact yF; dsimp only [ZB, z0, z1]) | refine WL.nil ?_ | refine ZA fun Kx hK => ?_ | (refine hK _ _ ?_; clear hK) | refine WC.region ?_ | ((first | apply WL.opN | apply WD.opN); (focus ((first | (refine Z0 (R := ZW) (_gR := inferInstance) ZB7 hil hc (OpD.t rfl) (OpD.t rfl)) | (apply SY.call (ht) Tryz.call39; (exact aD)) | ((first | apply SY.move | apply SY.assign | apply SY.lss | apply SY.neq | apply SY.not) <;> (exact oD)) | ((first | apply SY.add) <;> first | exact oD | omega) | (apply SY.len; (exact oD); (exact nD); (exact uD)) | (apply ZT clT; exact OpD.t rfl) | (apply ZU clT; exact OpD.t rfl) | fail); all_goals infer_instance)); dsimp only [ZB, z0, z1]) | (apply ZC; (exact oD); all_goals (intro h; try exact xD)) | (apply ZL; (exact oD); all_goals (intro h; try exact xD)) | refine WC.skip ?_ | refine WC.block ?_ | refine ThenD.n ?_)); all_goals (first | ((repeat clear hK); (repeat clear Kx))))
      all_goals try (exfalso; first | contradiction | omega)
      rw [<- et]
      (refine ⟨(i + 1, _), ?_, by first | omega | (simp only; omega), rfl, ?_⟩; rotate_left; ((try dsimp only [ZX, z0, z1]); repeat (first | exact LeF.nil | refine ZG (k := ?_))); (try dsimp only))
      omega
     | false =>
      rw [htr] at ht
      rw [if_neg (by rw [htr]; decide)] at et
      ((repeat' (first |  (apply WC.drawTail 10; kernel_rfl; kernel_rfl; simp only [List.take_succ_cons, List.take_zero, List.drop_succ_cons, List.drop_zero]) | ((first | apply WL.opN | apply WD.opN); exact yF; dsimp only [ZB, z0, z1]) | refine WL.nil ?_ | refine WD.nil ?_ | refine ZA fun Kx hK => ?_ | (refine hK _ _ ?_; clear hK) | refine WC.region ?_ |  (refine ZBM (mAt 0 rfl) fun hvv => WL.perm (List.Perm.swap _ _ _) ?_; refine ZK (SW.storeS ZCz (OpD.t rfl) (OpD.t rfl) (Z8 hvv) (by simp)) fun _ => ?_; dsimp only [ZB, z0, z1]) | ((apply (WL.perm (List.Perm.swap _ _ _)); (first | apply WL.appK | apply WL.app1); (exact eD); exact OpD.t rfl; (exact oD); decide; (exact lD); (intro _; dsimp only [ZB, z0, z1]); all_goals (try infer_instance))) | ((first | apply WL.opN | apply WD.opN); (focus ((first | (refine Z0 (R := ZW) (_gR := inferInstance) ZB7 hil hc (OpD.t rfl) (OpD.t rfl)) | (apply SY.call (ht) Tryz.call39; (exact aD)) | (apply SY.call (hwo) Tryz.call80; (exact aD)) | (refine ZM strC (OpD.t rfl) (by decide)) | (apply ZI; exact ZCz; exact OpD.t rfl; (first | exact mAt 0 rfl | exact mAt 1 rfl); rfl) | (exact SY.build1' ZB7 (R := ZW) (_gR := inferInstance) (els := [ZN c a]) (Zt (OpD.t rfl) Zy) rfl rfl (fun _ => ZAA) (by simp)) | ((first | apply SY.move | apply SY.assign | apply SY.lss | apply SY.neq | apply SY.not) <;> (exact oD)) | ((first | apply SY.add) <;> first | exact oD | omega) | (apply SY.len; (exact oD); (exact nD); (exact uD)) | (apply ZT clT; exact OpD.t rfl) | (apply ZU clT; exact OpD.t rfl) | fail); all_goals infer_instance)); dsimp only [ZB, z0, z1]) | (apply ZC; (exact oD); all_goals (intro h; try exact xD)) | (apply ZL; (exact oD); all_goals (intro h; try exact xD)) | refine WC.skip ?_ | refine WC.block ?_ | refine ThenD.n ?_)); all_goals (first | ((repeat clear hK); (repeat clear Kx))))
      all_goals try (exfalso; first | contradiction | omega)
      try rw [<- et]
      (refine ⟨(i + 1, _), ?_, by first | omega | (simp only; omega), rfl, ?_⟩; rotate_left; ((try dsimp only [ZX, z0, z1]); repeat (first | exact LeF.nil | refine ZG (k := ?_))); (try dsimp only))
      omega
    ·have hlti : ¬ (i : Int) < (l.length : Int) := by omega
     obtain rfl : i = l.length := by omega
     rw [List.take_length]
     (repeat' (first |  (refine WC.only 13 (Halt.go ?_)) | ((first | apply WL.opN | apply WD.opN); exact yF; dsimp only [ZB, z0, z1]) | refine WL.nil ?_ | refine ZA fun Kx hK => ?_ | (refine hK _ _ ?_; clear hK) | (refine Kont.skip ?_; clear hK) | refine WC.region ?_ | ((first | apply WL.opN | apply WD.opN); (focus ((first | ((first | apply SY.move | apply SY.assign | apply SY.lss | apply SY.neq | apply SY.not) <;> (exact oD)) | (apply SY.len; (exact oD); (exact nD); (exact uD)) | (apply ZT clT; exact OpD.t rfl) | (apply ZU clT; exact OpD.t rfl) | fail); all_goals infer_instance)); dsimp only [ZB, z0, z1]) | (apply ZC; (exact oD); all_goals (intro h; try exact xD)) | refine WC.exit ?_))
     all_goals try (exfalso; first | contradiction | omega)
     refine ⟨ZJp (k := 1) rfl (ZIi (t := 8) rfl ?_)⟩
     dsimp only [z0, z1]
     ((repeat' (first | ((first | apply WL.opN | apply WD.opN); exact yF; dsimp only [ZB, z0, z1]) | refine WL.nil ?_ | (refine hK _ _ ?_; clear hK) | refine WC.region ?_ |  (refine ZAN tyV rfl (OpD.t rfl) ZBo ?_; dsimp only [ZB, z0, z1, List.eraseIdx_cons_succ, List.eraseIdx_cons_zero]) | refine WC.ret ?_)); all_goals (first | ((repeat clear hK); (repeat clear Kx))))
     all_goals try (exfalso; first | contradiction | omega)
     exact ⟨trivial, ⟨_, rfl, FinD.le (Dat.le_refl _)⟩, _, rfl, FinD.le (ZAk rfl)⟩
  ·have e2 : ZLb (N : Int) l a = (0, []) := by unfold ZLb; rw [if_neg (by rw [e]; exact ha)]
   rw [e2, e]
   clear e e2
   generalize ZEG (N : Int) [] a = q at h2 ha ⊢
   ((repeat' (first | ((first | apply WL.opN | apply WD.opN); exact yF; dsimp only [ZB, z0, z1]) | refine WL.nil ?_ | refine ZA fun Kx hK => ?_ | (refine hK _ _ ?_; clear hK) | refine WC.region ?_ |  (refine WL.alloc (dst := some 4) (T := 24) tzV ZBp fun b4 => ?_; dsimp only [ZB, z0, z1]) |  (refine ZAN tyV rfl (OpD.t rfl) (ZCM (by decide) rfl) ?_; dsimp only [ZB, z0, z1, List.eraseIdx_cons_succ, List.eraseIdx_cons_zero]) | ((first | apply WL.opN | apply WD.opN); (focus ((first | (apply SY.call (h1) Tryz.call29; (exact aD)) | (apply SY.call (h2) Tryz.call79; (exact aD)) | (exact ZFm) | ((first | apply SY.move | apply SY.assign | apply SY.lss | apply SY.neq | apply SY.not) <;> (exact oD)) | (apply ZT clT; exact OpD.t rfl) | (apply ZU clT; exact OpD.t rfl) | (apply SY.box; (exact oD); (exact hD)) | fail); all_goals infer_instance)); dsimp only [ZB, z0, z1]) | (apply ZO; (exact oD); all_goals (intro h; try exact xD)) | refine WC.skip ?_ | refine WC.ret ?_ | refine ThenD.r ?_)); all_goals (first | ((repeat clear hK); (repeat clear Kx))))
   all_goals try (exfalso; first | contradiction | omega)
   exact ⟨trivial, ⟨_, rfl, FinD.le (ZD4 (Dat.le_refl _) ZD)⟩, _, rfl, FinD.le (ZAk rfl)⟩
 ·have e : ZFC V l a = ZQ V l := if_pos hck
  have e2 : ZLb V l a = (0, []) := by unfold ZLb; rw [if_neg (by rw [e]; exact hck)]
  rw [e2, e]
  clear e e2
  generalize ZQ V l = q at h1 hck ⊢
  refine ZB9 tyV Tryz.func35 rfl rfl ?_
  -- @kinds ref41.Assign
  simp only [Tryz.ntmps35, List.length_cons, List.length_nil, Nat.reduceAdd, Nat.reduceSub, List.replicate_succ, List.replicate_zero, List.cons_append, List.nil_append]
  ((repeat' (first | ((first | apply WL.opN | apply WD.opN); exact yF; dsimp only [ZB, z0, z1]) | refine WL.nil ?_ | refine ZA fun Kx hK => ?_ | (refine hK _ _ ?_; clear hK) | refine WC.region ?_ |  (refine WL.alloc (dst := some 4) (T := 24) tzV ZBp fun b4 => ?_; dsimp only [ZB, z0, z1]) |  (refine ZAN tyV rfl (OpD.t rfl) (ZCM (by decide) rfl) ?_; dsimp only [ZB, z0, z1, List.eraseIdx_cons_succ, List.eraseIdx_cons_zero]) | ((first | apply WL.opN | apply WD.opN); (focus ((first | (apply SY.call (h1) Tryz.call29; (exact aD)) | (exact ZFm) | ((first | apply SY.move | apply SY.assign | apply SY.lss | apply SY.neq | apply SY.not) <;> (exact oD)) | (apply SY.box; (exact oD); (exact hD)) | fail); all_goals infer_instance)); dsimp only [ZB, z0, z1]) | (apply ZO; (exact oD); all_goals (intro h; try exact xD)) | refine WC.ret ?_ | refine ThenD.r ?_)); all_goals (first | ((repeat clear hK); (repeat clear Kx))))
  all_goals try (exfalso; first | contradiction | omega)
  exact ⟨trivial, ⟨_, rfl, FinD.le (ZD4 (Dat.le_refl _) ZD)⟩, _, rfl, FinD.le (ZAk rfl)⟩
end
section
open Go.RowKit
set_option maxHeartbeats 8000000 in
theorem ZJJ (V : Int) (l : List (List Int)) (a : List Int) (hal : a.length ≤ 1000000) (he : ZFC V l a ≠ 0) : Fn Tryz.prog 9 [dS Cls (V, l), dS ZW a] (dT [dI 0, dA, dA, dI (ZFC V l a)]) := by
 have h1 := ZEy V l a hal
 generalize ZFC V l a = q at h1 he ⊢
 generalize ZLb V l a = cc at h1
 obtain ⟨c0, c1⟩ := cc
 refine ZCq Tryz.func9 rfl rfl ?_
 -- @kinds ref43.Under
 simp only [Tryz.ntmps9, List.length_cons, List.length_nil, Nat.reduceAdd, Nat.reduceSub, List.replicate_succ, List.replicate_zero, List.cons_append, List.nil_append]
 ((repeat' (first | (apply WL.opN; exact yF; dsimp only [ZB, z0, z1]) | refine WL.nil ?_ | refine ZA fun Kx hK => ?_ | (refine hK _ _ ?_; clear hK) | refine WC.region ?_ |  (refine WL.alloc (dst := some 8) (T := 24) tzV ZBp fun b8 => ?_; dsimp only [ZB, z0, z1]) |  (refine ZK (ZAD tyV (OpD.t rfl) (OpD.t rfl) ZBo) fun _ => ?_; dsimp only [ZB, z0, z1]) | (apply WL.opN; (focus ((first | (apply SY.call (h1) Tryz.call35; (exact aD)) | ((first | apply SY.move | apply SY.assign | apply SY.neq) <;> (exact oD)) | (apply SY.extract; (exact oD); rfl) | (apply SY.box; (exact oD); (exact hD)) | fail); all_goals infer_instance)); dsimp only [ZB, z0, z1]) | (apply ZO; (exact oD); all_goals (intro h; try exact xD)) | refine WC.ret ?_ | refine ThenD.r ?_)); all_goals (first | ((repeat clear hK); (repeat clear Kx))))
 all_goals try (exfalso; first | contradiction | omega)
 exact ⟨trivial, ⟨_, rfl, FinD.le (ZAk rfl)⟩, ⟨_, rfl, FinD.le (ZBH _)⟩, ⟨_, rfl, FinD.le (ZBH _)⟩, _, rfl, FinD.le (ZAk rfl)⟩
set_option maxHeartbeats 8000000 in
theorem ZK2 (N : Nat) (l : List (List Int)) (a : List Int) (hN : N ≤ 14) (hck : ZQ (N : Int) l = 0) (hA : Asn N a) : Fn Tryz.prog 9 [dS Cls ((N : Int), l), dS ZW a] (dT [dI (if (Zu (N + 1) l a).isSome = true then 1 else 2), dA, dA, dI 0]) := by
 obtain ⟨_, _, hll, hcl⟩ := Zc hck
 have hw : WfL N l := (Zs (by omega)).1 hcl
 have hal := hA.len
 have h1 := ZEy (N : Int) l a (by omega)
 have e : ZFC (N : Int) l a = 0 := by unfold ZFC; rw [if_neg (by simp [hck])]; exact ZJ1 a [] (by simpa using hA)
 rw [e] at h1
 generalize ZLb (N : Int) l a = cc at h1
 obtain ⟨c0, c1⟩ := cc
 have h2 := ZFc N hN l hw hll (N + 1) a hA (by
  unfold ZGR
  exact Nat.lt_succ_of_le (Nat.le_trans (List.length_filter_le _ _) (by simp)))
 have h3 := ZGh N (by omega) ((Zu (N + 1) l a).getD [])
 generalize (Zu (N + 1) l a).getD [] = r at h2 h3
 cases hs : (Zu (N + 1) l a).isSome with
 | true =>
  rw [hs] at h2
  refine ZCq Tryz.func9 rfl rfl ?_
  -- @kinds ref43.Under
  simp only [Tryz.ntmps9, List.length_cons, List.length_nil, Nat.reduceAdd, Nat.reduceSub, List.replicate_succ, List.replicate_zero, List.cons_append, List.nil_append]
  ((repeat' (first | (apply WL.opN; exact yF; dsimp only [ZB, z0, z1]) | refine WL.nil ?_ | refine ZA fun Kx hK => ?_ | (refine hK _ _ ?_; clear hK) | refine WC.region ?_ |  (refine WL.alloc (dst := some 8) (T := 24) tzV ZBp fun b8 => ?_; dsimp only [ZB, z0, z1]) |  (refine ZK (ZAD tyV (OpD.t rfl) (OpD.t rfl) ZBo) fun _ => ?_; dsimp only [ZB, z0, z1]) | (apply WL.opN; (focus ((first | (apply SY.call (h1) Tryz.call35; (exact aD)) | (apply SY.call (h2) Tryz.call36; (exact aD)) | (apply SY.call (h3) Tryz.call37; (exact aD)) | ((first | apply SY.move | apply SY.assign | apply SY.neq) <;> (exact oD)) | (apply ZT clT; exact OpD.t rfl) | (apply ZU clT; exact OpD.t rfl) | (apply SY.extract; (exact oD); rfl) | (apply SY.box; (exact oD); (exact hD)) | fail); all_goals infer_instance)); dsimp only [ZB, z0, z1]) | (apply Zj; (exact oD); (with_reducible rfl)) | (apply ZO; (exact oD); all_goals (intro h; try exact xD)) | refine WC.skip ?_ | refine WC.ret ?_ | refine ThenD.r ?_)); all_goals (first | ((repeat clear hK); (repeat clear Kx))))
  all_goals try (exfalso; first | contradiction | omega)
  exact ⟨trivial, ⟨_, rfl, FinD.le (ZAk rfl)⟩, ⟨_, rfl, FinD.le (ZBH _)⟩, ⟨_, rfl, FinD.le (ZBH _)⟩, _, rfl, FinD.le (ZAk rfl)⟩
 | false =>
  rw [hs] at h2
  refine ZCq Tryz.func9 rfl rfl ?_
  -- @kinds ref43.Under
  simp only [Tryz.ntmps9, List.length_cons, List.length_nil, Nat.reduceAdd, Nat.reduceSub, List.replicate_succ, List.replicate_zero, List.cons_append, List.nil_append]
  ((repeat' (first | (apply WL.opN; exact yF; dsimp only [ZB, z0, z1]) | refine WL.nil ?_ | refine ZA fun Kx hK => ?_ | (refine hK _ _ ?_; clear hK) | refine WC.region ?_ |  (refine WL.alloc (dst := some 8) (T := 24) tzV ZBp fun b8 => ?_; dsimp only [ZB, z0, z1]) |  (refine ZK (ZAD tyV (OpD.t rfl) (OpD.t rfl) ZBo) fun _ => ?_; dsimp only [ZB, z0, z1]) | (apply WL.opN; (focus ((first | (apply SY.call (h1) Tryz.call35; (exact aD)) | (apply SY.call (h2) Tryz.call36; (exact aD)) | ((first | apply SY.move | apply SY.assign | apply SY.neq) <;> (exact oD)) | (apply ZT clT; exact OpD.t rfl) | (apply ZU clT; exact OpD.t rfl) | (apply SY.extract; (exact oD); rfl) | (apply SY.box; (exact oD); (exact hD)) | fail); all_goals infer_instance)); dsimp only [ZB, z0, z1]) | (apply Zg; (exact oD); (with_reducible rfl)) | (apply ZO; (exact oD); all_goals (intro h; try exact xD)) | refine WC.skip ?_ | refine WC.ret ?_)); all_goals (first | ((repeat clear hK); (repeat clear Kx))))
  all_goals try (exfalso; first | contradiction | omega)
  exact ⟨trivial, ⟨_, rfl, FinD.le (ZAk rfl)⟩, ⟨_, rfl, FinD.le (ZBH _)⟩, ⟨_, rfl, FinD.le (ZBH _)⟩, _, rfl, FinD.le (ZAk rfl)⟩
end
end Go.Proofs.YtjmignmnlpamjaaGreat
