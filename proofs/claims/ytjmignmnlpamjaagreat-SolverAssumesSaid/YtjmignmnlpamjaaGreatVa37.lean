/- Part 37: walks by contracts, and plain laws. -/
import Derived.Test.YtjmignmnlpamjaaGreatVa36
set_option linter.unusedVariables false
set_option linter.unusedSimpArgs false
set_option linter.unusedSectionVars false
set_option maxRecDepth 100000
set_option maxHeartbeats 4000000
namespace Go.Proofs.YtjmignmnlpamjaaGreat
section
open Go.RowKit
open S43 (ZAO up)
theorem CallC.froz1 {P : Program} {f : FuncId} {ds : List Dat} {hp1 O : List HObj} {e : TypeId} {α : Type} {R : Rel α} {_gR : Good R} {xs : List α} (h : CallC P f ds hp1 fun d hp2 => ∃ v, d = dX v /\ hp2 = ZS v e R xs :: O) : CallC P f ds hp1 fun d hp2 => d = dS (Arr R) xs /\ hp2 = O := ⟨fun P0 B w0 hp vs W hh hl hv => by
 refine Calls.mono (h.out P0 B w0 hp vs W hh hl hv) fun e' W' ⟨v, d, hp2, he, hk, hh2, hd⟩ => ?_
 obtain ⟨u, rfl, rfl⟩ := hk
 have hvu : v = u := hd
 refine ⟨v, _, _, he, ⟨rfl, rfl⟩, hh2.drop, ?_⟩
 rw [hvu]
 exact ZBv hh2⟩
theorem ZBW : (dX (.agg #[.int .i64 0, .slice none 0 0])).Shape 2 true := fun _ _ _ h => by cases (h : _ = _); exact ⟨[.int .i64 0, .slice none 0 0], rfl, by decide, by simp [Value.oneCell'], rfl, rfl⟩
def ZEY (V : Nat) (l : List (List Int)) (a : List Int) (v : Int) (m c : List Int) : Prop :=
 (v = 1 /\ c = [] /\ m ∈ ZB6 V l [] /\ ∀ x ∈ a, x ∈ m) \/ (v = 2 /\ m = [] /\ List.Sublist c a /\ ∀ m ∈ ZB6 V l [], ¬ ∀ x ∈ c, x ∈ m)
def ZI0 (V : Nat) (l : List (List Int)) (c : List Int) : Bool := (ZB6 V l []).all fun m => Zx c m
set_option maxHeartbeats 8000000 in
theorem ZIl (V : Nat) (l : List (List Int)) (a : List Int) (hV : V ≤ 4096) (hck : ZQ (V : Int) l = 0) (hA : Asn V a) : Fn Tryz.prog 23 [dS Cls ((V : Int), l), dS ZW a] (dT [dS Cls ((V : Int), ZDA l a), dI 0]) := by
 obtain ⟨_, _, hll, hcl⟩ := Zc hck
 have hw : WfL V l := (Zs hV).1 hcl
 have h1 := ZFs V l a hV (ZFX hV hw) hck hA
 have h2 := fun b6 bm => ZLa V b6 bm a l hV hA (fun c hc => (hw c hc).rng) (fun c hc => by have := S43.trail_len (V := V) (hw c hc).rng ((hw c hc).inc.imp fun h => by omega); omega) (by omega)
 refine ZB9 tyV Tryz.func23 rfl rfl ?_
 -- @kinds clauses.Assign
 simp only [Tryz.ntmps23, List.length_cons, List.length_nil, Nat.reduceAdd, Nat.reduceSub, List.replicate_succ, List.replicate_zero, List.cons_append, List.nil_append]
 (repeat' (first |  (refine WC.only 4 (Halt.go ?_)) | ((first | apply WL.opN | apply WD.opN); exact yF; dsimp only [ZB, z0, z1]) | refine WL.nil ?_ | refine ZA fun Kx hK => ?_ | (refine hK _ _ ?_; clear hK) | refine WC.region ?_ |  (refine WL.alloc (dst := some 4) (T := 24) tzV ZBW fun b4 => ?_; dsimp only [ZB, z0, z1]) |  (refine WL.callC (hp1 := []) (caps := []) h1 Tryz.call57 OpD.f (ArgsD.cons (OpD.t rfl) (ArgsD.cons (OpD.t rfl) ArgsD.nil)) ?_; rintro d' hp2 ⟨e2, e3, rfl, bm, rfl, rfl, rfl⟩; dsimp only [ZB, z0, z1, List.cons_append, List.nil_append]) |  (refine WL.alloc (dst := some 6) (T := 88) tzVa (Z8 rfl) fun b6 => ?_; dsimp only [ZB, z0, z1]) |  (refine ZK (ZAD ZOO (OpD.t rfl) (OpD.t rfl) (Z8 rfl)) fun _ => ?_; dsimp only [ZB, z0, z1]) | ((first | apply WL.opN | apply WD.opN); (focus ((first | ((first | apply SY.move | apply SY.assign | apply SY.neq) <;> (exact oD)) | (apply SY.extract; (exact oD); rfl) | (apply SY.box; (exact oD); (exact hD)) | fail); all_goals infer_instance)); dsimp only [ZB, z0, z1]) | (apply ZO; (exact oD); all_goals (intro h; try exact xD)) | refine WC.skip ?_))
 all_goals try (exfalso; first | contradiction | omega)
 refine ⟨?_⟩
 ((repeat' (first |  (refine WC.drawM (fun _ => True) 6 3 [(0, false), (1, false), (2, false), (3, false), (4, false), (5, true)] [true, true, true, true, true, true, false, false, false] (by kernel_rfl) (by kernel_rfl) (by kernel_rfl) rfl (trivial) ?_) |  (first | refine WA.one (S := [true, true, true, true, true, true, false, false, false]) (i := 6) (by kernel_rfl) rfl ?_ | refine WA.one (S := [true, true, true, true, true, true, true, false, false]) (i := 7) (by kernel_rfl) rfl ?_ | refine WA.one (S := [true, true, true, true, true, true, true, true, false]) (i := 8) (by kernel_rfl) rfl ?_ | refine WA.nil (S := [true, true, true, true, true, true, true, true, true]) (by kernel_rfl) ?_) |  (refine ZAf rfl (SW.callC (hp1 := aO b6 bm a) (caps := []) (H := fun _ : Unit => aO b6 bm a) (D := fun _ => dS Rows (ZDA l a)) (h2 b6 bm).froz1 Tryz.call51 OpD.f (ArgsD.cons (OpD.t rfl) (ArgsD.cons (OpD.t rfl) ArgsD.nil)) (fun _ _ h => ⟨(), h.1, h.2⟩)) (fun _ => trivial) fun _ => ?_; dsimp only [ZB, z0, z1, List.cons_append, List.nil_append]) | (refine WM.nil ?_) | (apply ZBC rfl; (focus (intro c hcc; apply SYG.yes; (exact Zi rfl); ((first | (exact ZBJ (vs := [ZDE b6]) (ArgsX.one (OpD.t rfl))) | (apply SY.load; (exact tD); (exact oD)) | (apply ZT clT; exact OpD.t rfl) | (apply ZU clT; exact OpD.t rfl) | fail); all_goals infer_instance))); dsimp only [ZB, z0, z1]) | ((first | apply WL.opN | apply WD.opN); exact yF; dsimp only [ZB, z0, z1]) | refine WL.nil ?_ | (refine hK _ _ ?_; clear hK) |  (refine WL.perm (ZAQ (i := 2) rfl) (ZAN tyV rfl (OpD.t rfl) (ZCM (by decide) rfl) ?_); dsimp only [ZB, z0, z1, List.eraseIdx_cons_succ, List.eraseIdx_cons_zero]) | ((first | apply WL.opN | apply WD.opN); (focus ((first | (exact ZJl is_A (OpD.t rfl) (OpD.t rfl)) | fail); all_goals infer_instance)); dsimp only [ZB, z0, z1]) | refine WC.ret ?_)); all_goals (first | ((repeat clear hK); (repeat clear Kx))))
 all_goals try (exfalso; first | contradiction | omega)
 exact ⟨trivial, ⟨_, rfl, FinD.le (ZD4 (Dat.le_refl _) (Dat.le_refl _))⟩, _, rfl, FinD.le (ZAk rfl)⟩
theorem ZFE (V : Nat) (l : List (List Int)) (a : List Int) (hV : V ≤ 4096) (hr : IRR l) (hck : ZQ (V : Int) l = 0) (ha : ∀ x ∈ a, IR x) (he : ZEG (V : Int) [] a ≠ 0) (hal : a.length ≤ 1000000) :
  CallC Tryz.prog 57 ([dS Cls ((V : Int), l), dS ZW a] ++ ([] : List Value).map dX) [] (fun d hp2 => ∃ e2 e3, d = dT [e2, e3] /\ e2 = dX (.map none) /\ e3 = dI (ZEG (V : Int) [] a) /\ ∃ bm k, hp2 = [hG bm kvI ZAF kvI (pAs (asF (a.take k)))]) := by
 have h1 := ZBT (V : Int) l hr
 rw [hck] at h1
 refine ZBb Tryz.func57 rfl rfl (fun hp => ?_)
 -- @kinds clauses.assignment
 simp only [Tryz.ntmps57, List.length_cons, List.length_nil, List.length_append, List.length_map, Nat.reduceAdd, Nat.reduceSub, List.replicate_succ, List.replicate_zero, List.cons_append, List.nil_append, List.map_cons, List.map_nil, List.append_assoc]
 (repeat' (first | (apply WL.opN; exact yF; dsimp only [ZB, z0, z1]) | refine WL.nil ?_ | refine ZA fun Kx hK => ?_ | (refine hK _ _ ?_; clear hK) | refine WC.region ?_ |  (refine ZBd (dst := some 16) kvI ZAF kvI (pAs fun _ => 0) (fun _ => rfl) fun bm => ?_; dsimp only [ZB, z0, z1]) | (apply ZJ; (focus (first | exact wN | (apply SYG.yes; (exact wY); ((first | (apply SY.call (h1) Tryz.call42; (exact aD)) | ((first | apply SY.move | apply SY.assign | apply SY.lss | apply SY.gtr | apply SY.neq) <;> (exact oD)) | (apply SY.len; (exact oD); (exact nD); (exact uD)) | (apply SY.box; (exact oD); (exact hD)) | fail); all_goals infer_instance)))); dsimp only [ZB, z0, z1]) | (apply ZO; (exact oD); all_goals (intro h; try exact xD)) | refine WC.skip ?_ | refine WC.block ?_))
 all_goals try (exfalso; first | contradiction | omega)
 (refine ZP (X := Nat) (fun k => [(19, dI (k : Int)), (4, dA), (5, dA), (9, dA), (10, dA), (20, dA), (21, dA), (22, dA), (23, dA), (24, dA), (25, dA), (26, dA), (27, dA), (28, dA), (29, dA), (30, dA), (31, dA), (32, dA), (33, dA), (34, dA), (35, dA), (36, dA), (37, dA), (38, dA), (39, dA), (40, dA)]) (fun k => (hG bm kvI ZAF kvI (pAs (asF (a.take k))) :: hp)) (fun k => a.length - k) (fun k => k ≤ a.length /\ Asn V (a.take k) /\ ZEG (V : Int) (a.take k) (a.drop k) = ZEG (V : Int) [] a) 0 ?start ?frame0 ?objs0 ?round)
 case start => exact ⟨Nat.zero_le _, Asn.nil V, rfl⟩
 case frame0 => ((try dsimp only [ZX, z0, z1]); repeat (first | exact LeF.nil | refine ZG (k := ?_)))
 case objs0 => rfl
 case round =>
  rintro k ⟨hk, hA, hE⟩
  dsimp only [ZX, z0, z1]
  by_cases hkl : k < a.length
  ·have hlt : (k : Int) < (a.length : Int) := by omega
   obtain ⟨x, hx⟩ : ∃ x, a[k] = x := ⟨_, rfl⟩
   have hxi := ha x (by rw [<- hx]; exact List.getElem_mem hkl)
   have hv := ZB1 x
   rw [ZIA hkl, hx] at hE
   have hgp := ZGn (vars := (V : Int)) hxi (by omega)
   by_cases hg : ZA8 (V : Int) x = true
   ·rw [if_pos hg] at hE
    have hxr := ZBU.1 hg
    rw [ZER hV hxr.2] at hv
    have h6 : ZAF ((x.natAbs : Nat) : Int) := by unfold ZAF; omega
    have hg1 : ¬ ((x.natAbs : Nat) : Int) < 1 := by omega
    have hg2 : ¬ ((x.natAbs : Nat) : Int) > (V : Int) := by omega
    have hsp := (ZEP _ _ rfl hA x hxr.1).2
    by_cases hm : x ∈ a.take k \/ -x ∈ a.take k
    ·rw [if_pos hm] at hE
     have h0 : ¬ asF (a.take k) x.natAbs = 0 := fun q => by
      obtain ⟨q1, q2⟩ := hsp.1 q
      exact hm.elim q1 q2
     obtain ⟨u, hu⟩ : ∃ u, asF (a.take k) x.natAbs = u := ⟨_, rfl⟩
     rw [hu] at h0
     ((repeat' (first | (apply WL.opN; exact yF; dsimp only [ZB, z0, z1]) | refine WL.nil ?_ | refine ZA fun Kx hK => ?_ | (refine hK _ _ ?_; clear hK) | refine WC.region ?_ | (apply ZJ; (focus (first | exact wN | (apply SYG.yes; (exact wY); ((first | (refine Z0 (R := RI) (_gR := inferInstance) elI hkl hx (OpD.t rfl) (OpD.t rfl)) | (apply SY.call (hv) Tryz.call50; (exact aD)) | (exact ZGX hu (OpD.t rfl) (mAt 0 rfl) (OpD.t rfl) h6) | ((first | apply SY.move | apply SY.assign | apply SY.lss | apply SY.gtr | apply SY.neq) <;> (exact oD)) | (apply SY.load; (exact tD); (exact oD)) | (apply ZT clT; exact OpD.t rfl) | (apply ZU clT; exact OpD.t rfl) | (apply Zp; (exact oD); (with_reducible rfl); (exact oD)) | fail); all_goals infer_instance)))); dsimp only [ZB, z0, z1]) | ((first | refine ZZ rfl rfl rfl (fun h => ?_) (fun h => ?_) | refine ZY rfl rfl rfl (fun h => ?_) (fun h => ?_) | refine ZV rfl rfl rfl (fun h => ?_) (fun h => ?_)) <;> (first | (exfalso; first | omega | contradiction) | (dsimp only [z0, z1]))) | (apply ZC; (exact oD); all_goals (intro h; try exact xD)) | (apply ZO; (exact oD); all_goals (intro h; try exact xD)) | refine WC.skip ?_ | refine WC.ret ?_ | refine WC.block ?_ | refine ThenD.r ?_ | refine InBlockD.r ?_)); all_goals (first | ((repeat clear hK); (repeat clear Kx))))
     all_goals try (exfalso; first | contradiction | omega)
     exact ⟨trivial, _, _, dX (.map none), dI (ZEG (V : Int) [] a), [hG bm kvI ZAF kvI (pAs (asF (a.take k)))], rfl, rfl, Dat.le_refl _, ZAk hE, rfl, rfl, rfl, bm, k, rfl⟩
    ·rw [if_neg hm] at hE
     have h0 : asF (a.take k) x.natAbs = 0 := hsp.2 ⟨fun q => hm (.inl q), fun q => hm (.inr q)⟩
     have et : asF (a.take (k + 1)) = up (asF (a.take k)) x.natAbs x := by rw [List.take_succ_eq_append_getElem hkl, hx, ZFr]
     have hA2 : Asn V (a.take (k + 1)) := by rw [List.take_succ_eq_append_getElem hkl, hx]; exact hA.snoc hxr (fun q => hm (.inl q)) (fun q => hm (.inr q))
     ((repeat' (first | (apply WL.opN; exact yF; dsimp only [ZB, z0, z1]) | refine WL.nil ?_ | refine ZA fun Kx hK => ?_ | (refine hK _ _ ?_; clear hK) | refine WC.region ?_ |  (refine ZK (SW.at 0 rfl fun q => ZA6 (pAs (up (asF (a.take k)) x.natAbs x)) ZKd ZAP (OpD.t rfl) (OpD.t rfl) isI (OpD.t rfl) isI h6 ZMk) fun _ => ?_; dsimp only [ZB, z0, z1]) | (apply ZJ; (focus (first | exact wN | (apply SYG.yes; (exact wY); ((first | (refine Z0 (R := RI) (_gR := inferInstance) elI hkl hx (OpD.t rfl) (OpD.t rfl)) | (apply SY.call (hv) Tryz.call50; (exact aD)) | (exact ZGX h0 (OpD.t rfl) (mAt 0 rfl) (OpD.t rfl) h6) | ((first | apply SY.move | apply SY.assign | apply SY.lss | apply SY.gtr | apply SY.neq) <;> (exact oD)) | ((first | apply SY.add) <;> first | exact oD | omega) | (apply SY.load; (exact tD); (exact oD)) | (apply ZT clT; exact OpD.t rfl) | (apply ZU clT; exact OpD.t rfl) | (apply Zp; (exact oD); (with_reducible rfl); (exact oD)) | fail); all_goals infer_instance)))); dsimp only [ZB, z0, z1]) | ((first | refine ZZ rfl rfl rfl (fun h => ?_) (fun h => ?_) | refine ZY rfl rfl rfl (fun h => ?_) (fun h => ?_) | refine ZV rfl rfl rfl (fun h => ?_) (fun h => ?_)) <;> (first | (exfalso; first | omega | contradiction) | (dsimp only [z0, z1]))) | (apply ZC; (exact oD); all_goals (intro h; try exact xD)) | (apply ZO; (exact oD); all_goals (intro h; try exact xD)) | refine WC.skip ?_ | refine WC.block ?_ | refine ThenD.n ?_)); all_goals (first | ((repeat clear hK); (repeat clear Kx))))
     all_goals try (exfalso; first | contradiction | omega)
     rw [<- et]
     (refine ⟨k + 1, ?_, by first | omega | (simp only; omega), rfl, ?_⟩; rotate_left; ((try dsimp only [ZX, z0, z1]); repeat (first | exact LeF.nil | refine ZG (k := ?_))); (try dsimp only))
     exact ⟨by omega, hA2, hE⟩
   ·rw [if_neg hg] at hE
    have hq := Classical.not_not.1 (mt hgp.2 hg)
    obtain ⟨pv, hpv⟩ : ∃ pv, ZBm x = pv := ⟨_, rfl⟩
    rw [hpv] at hq hv
    by_cases hq1 : pv < 1
    ·((repeat' (first | (apply WL.opN; exact yF; dsimp only [ZB, z0, z1]) | refine WL.nil ?_ | refine ZA fun Kx hK => ?_ | (refine hK _ _ ?_; clear hK) | refine WC.region ?_ | (apply ZJ; (focus (first | exact wN | (apply SYG.yes; (exact wY); ((first | (refine Z0 (R := RI) (_gR := inferInstance) elI hkl hx (OpD.t rfl) (OpD.t rfl)) | (apply SY.call (hv) Tryz.call50; (exact aD)) | ((first | apply SY.move | apply SY.assign | apply SY.lss | apply SY.gtr | apply SY.neq) <;> (exact oD)) | (apply Z7; (exact oD); (with_reducible rfl); (exact oD)) | fail); all_goals infer_instance)))); dsimp only [ZB, z0, z1]) | ((first | refine ZZ rfl rfl rfl (fun h => ?_) (fun h => ?_) | refine ZY rfl rfl rfl (fun h => ?_) (fun h => ?_) | refine ZV rfl rfl rfl (fun h => ?_) (fun h => ?_)) <;> (first | (exfalso; first | omega | contradiction) | (dsimp only [z0, z1]))) | (apply Zj; (exact oD); (with_reducible rfl)) | (apply ZC; (exact oD); all_goals (intro h; try exact xD)) | refine WC.skip ?_ | refine WC.ret ?_ | refine WC.block ?_ | refine ThenD.r ?_ | refine InBlockD.r ?_)); all_goals (first | ((repeat clear hK); (repeat clear Kx))))
     all_goals try (exfalso; first | contradiction | omega)
     exact ⟨trivial, _, _, dX (.map none), dI (ZEG (V : Int) [] a), [hG bm kvI ZAF kvI (pAs (asF (a.take k)))], rfl, rfl, Dat.le_refl _, ZAk hE, rfl, rfl, rfl, bm, k, rfl⟩
    ·have hq2 : pv > (V : Int) := by omega
     ((repeat' (first | (apply WL.opN; exact yF; dsimp only [ZB, z0, z1]) | refine WL.nil ?_ | refine ZA fun Kx hK => ?_ | (refine hK _ _ ?_; clear hK) | refine WC.region ?_ | (apply ZJ; (focus (first | exact wN | (apply SYG.yes; (exact wY); ((first | (refine Z0 (R := RI) (_gR := inferInstance) elI hkl hx (OpD.t rfl) (OpD.t rfl)) | (apply SY.call (hv) Tryz.call50; (exact aD)) | ((first | apply SY.move | apply SY.assign | apply SY.lss | apply SY.gtr | apply SY.neq) <;> (exact oD)) | (apply SY.load; (exact tD); (exact oD)) | (apply ZT clT; exact OpD.t rfl) | (apply ZU clT; exact OpD.t rfl) | (apply Zp; (exact oD); (with_reducible rfl); (exact oD)) | fail); all_goals infer_instance)))); dsimp only [ZB, z0, z1]) | ((first | refine ZZ rfl rfl rfl (fun h => ?_) (fun h => ?_) | refine ZY rfl rfl rfl (fun h => ?_) (fun h => ?_) | refine ZV rfl rfl rfl (fun h => ?_) (fun h => ?_)) <;> (first | (exfalso; first | omega | contradiction) | (dsimp only [z0, z1]))) | (apply ZC; (exact oD); all_goals (intro h; try exact xD)) | refine WC.skip ?_ | refine WC.ret ?_ | refine WC.block ?_ | refine ThenD.r ?_ | refine InBlockD.r ?_)); all_goals (first | ((repeat clear hK); (repeat clear Kx))))
     all_goals try (exfalso; first | contradiction | omega)
     exact ⟨trivial, _, _, dX (.map none), dI (ZEG (V : Int) [] a), [hG bm kvI ZAF kvI (pAs (asF (a.take k)))], rfl, rfl, Dat.le_refl _, ZAk hE, rfl, rfl, rfl, bm, k, rfl⟩
  ·have hlt : ¬ (k : Int) < (a.length : Int) := by omega
   obtain rfl : k = a.length := by omega
   rw [List.drop_length] at hE
   exact absurd hE.symm he
set_option maxHeartbeats 8000000 in
theorem ZHw (V : Nat) (l : List (List Int)) (a : List Int) (hV : V ≤ 10) (hck : ZQ (V : Int) l = 0) (hA : Asn V a) :
  CallC Tryz.prog 8 ([dS Cls ((V : Int), l), dS ZW a] ++ ([] : List Value).map dX) [] (fun d hp2 => hp2 = [] /\ ∃ e2 e3 e4 e5, d = dT [e2, e3, e4, e5] /\ ∃ v m c, e2 = dI v /\ e3 = dS ZW m /\ e4 = dS ZW c /\ e5 = dI 0 /\ ZEY V l a v m c) := by
 obtain ⟨_, _, hll, hcl⟩ := Zc hck
 have hl : WfL V l := (Zs (by omega)).1 hcl
 have h1 := ZIl V l a (by omega) hck hA
 have hal := hA.len
 have hb := ZFt V l (by omega) hl (by omega)
 have hr := fun (X : Lay) (hX : X.cf = 0) => ZMJ X V a l hV (by omega) hA.rng (by omega) hl hX
 refine ZD3 Tryz.func8 rfl rfl (fun hp => ?_)
 -- @kinds solver.Under
 simp only [Tryz.ntmps8, List.length_cons, List.length_nil, List.length_append, List.length_map, Nat.reduceAdd, Nat.reduceSub, List.replicate_succ, List.replicate_zero, List.cons_append, List.nil_append, List.map_cons, List.map_nil, List.append_assoc]
 (repeat' (first |  (refine WC.only 5 (Halt.go ?_)) | (apply WL.opN; exact yF; dsimp only [ZB, z0, z1]) | refine WL.nil ?_ | refine ZA fun Kx hK => ?_ | (refine hK _ _ ?_; clear hK) | refine WC.region ?_ |  (refine WL.alloc (dst := some 8) (T := 24) tzV ZBW fun b8 => ?_; dsimp only [ZB, z0, z1]) |  (refine ZK (ZAD tyV (OpD.t rfl) (OpD.t rfl) ZBo) fun _ => ?_; dsimp only [ZB, z0, z1]) |  (refine WL.callC (hp1 := []) (caps := []) hb Tryz.call33 OpD.f (by (exact aD)) ?_; rintro d' hp2 ⟨X, hX, rfl, rfl⟩; dsimp only [ZB, z0, z1]) |  (refine WL.callC (hp1 := ZFb X V (ZAO l) [] []) (caps := []) (hr X hX) Tryz.call34 OpD.f (ArgsD.cons (OpD.t rfl) (ArgsD.cons (OpD.t rfl) ArgsD.nil)) ?_; rintro d' hp2 ⟨k, res, lr, Y, s, rfl, rfl, hYb, hRR, hSS⟩; dsimp only [ZB, z0, z1, List.cons_append, List.nil_append]) | (apply WL.opN; (focus ((first | (apply SY.call (h1) Tryz.call23; (exact aD)) | ((first | apply SY.move | apply SY.assign | apply SY.eql | apply SY.neq) <;> (exact oD)) | (apply ZT clT; exact OpD.t rfl) | (apply ZU clT; exact OpD.t rfl) | (apply SY.extract; (exact oD); rfl) | (apply SY.box; (exact oD); (exact hD)) | fail); all_goals infer_instance)); dsimp only [ZB, z0, z1]) | (apply ZO; (exact oD); all_goals (intro h; try exact xD)) | refine WC.skip ?_))
 all_goals try (exfalso; first | contradiction | omega)
 refine ⟨?_⟩
 rcases hRR.is with rfl | rfl
 ·have hfin := hRR.yes rfl
  clear hRR hSS
  ((repeat' (first | (apply WL.opN; exact yF; dsimp only [ZB, z0, z1]) | refine WL.nil ?_ | refine ZA fun Kx hK => ?_ | (refine hK _ _ ?_; clear hK) | refine WC.region ?_ | (apply WL.opN; (focus ((first | ((first | apply SY.move | apply SY.assign | apply SY.eql | apply SY.neq) <;> (exact oD)) | fail); all_goals infer_instance)); dsimp only [ZB, z0, z1]) | (apply ZC; (exact oD); all_goals (intro h; try exact xD)) | refine WC.ret ?_ | refine WC.block ?_ | refine ThenD.r ?_ | refine InBlockD.r ?_)); all_goals (first | ((repeat clear hK); (repeat clear Kx))))
  all_goals try (exfalso; first | contradiction | omega)
  exact ⟨trivial, _, _, _, _, dI 1, dS ZW res, dS ZW [], dI 0, rfl, rfl, rfl, rfl, Dat.le_refl _, Dat.le_refl _, ZD, ZAk rfl, ⟨[_, _, _], rfl⟩, 1, res, [], rfl, rfl, rfl, rfl, .inl ⟨rfl, rfl, hfin.1, hfin.2⟩⟩
 ·have hfin := hRR.no rfl
  clear hRR hSS
  ((repeat' (first | (apply WL.opN; exact yF; dsimp only [ZB, z0, z1]) | refine WL.nil ?_ | refine ZA fun Kx hK => ?_ | (refine hK _ _ ?_; clear hK) | refine WC.region ?_ | (apply WL.opN; (focus ((first | ((first | apply SY.move | apply SY.assign | apply SY.eql | apply SY.neq) <;> (exact oD)) | fail); all_goals infer_instance)); dsimp only [ZB, z0, z1]) | (apply ZC; (exact oD); all_goals (intro h; try exact xD)) | refine WC.ret ?_ | refine WC.block ?_ | refine ThenD.r ?_ | refine InBlockD.r ?_)); all_goals (first | ((repeat clear hK); (repeat clear Kx))))
  all_goals try (exfalso; first | contradiction | omega)
  exact ⟨trivial, _, _, _, _, dI 2, dS ZW [], dS ZW res, dI 0, rfl, rfl, rfl, rfl, Dat.le_refl _, ZD, Dat.le_refl _, ZAk rfl, ⟨[_, _, _], rfl⟩, 2, [], res, rfl, rfl, rfl, rfl, .inr ⟨rfl, rfl, hfin.1, hfin.2⟩⟩
end
section
open Go.RowKit
open S43 (ZAO)
def ngI (c : List Int) : List Int := c.map fun x => -x
theorem ZL5 {c : List Int} {i : Nat} (h : i < c.length) : ngI (c.take (i + 1)) = ngI (c.take i) ++ [-(c[i])] := by
 unfold ngI
 rw [List.take_succ_eq_append_getElem h, List.map_append]; rfl
theorem RunR.imp {V : Nat} {l lr : List (List Int)} {c res : List Int} {k : Int} (hc : WfC V c) (h : RunR V (ngI c) l k res lr) : ZI0 V l c = decide (k = 2) := by
 rcases h.is with rfl | rfl
 ·have h1 := h.yes rfl
  rw [show decide ((1 : Int) = 2) = false from rfl]
  unfold ZI0
  rw [List.all_eq_false]
  refine ⟨res, h1.1, fun ht => ?_⟩
  obtain ⟨x, x1, x2⟩ := Zn.1 ht
  exact (ZCL h1.1).1 x x2 (h1.2 (-x) (List.mem_map.2 ⟨x, x1, rfl⟩))
 ·obtain ⟨q1, q2⟩ := h.no rfl
  rw [show decide ((2 : Int) = 2) = true from rfl]
  unfold ZI0
  rw [List.all_eq_true]
  intro m hm
  by_cases ht : Zx c m = true
  ·exact ht
  ·exfalso
   refine q2 m hm fun x hx => ?_
   obtain ⟨y, y1, rfl⟩ := List.mem_map.1 (q1.subset hx)
   obtain ⟨_, s2, _⟩ := ZCL hm
   have hr := hc.rng y y1
   rcases s2 y hr.1 hr.2 with q | q
   ·exact absurd (Zn.2 ⟨y, y1, q⟩) ht
   ·exact q
theorem ZHe {V : Nat} (hV : V ≤ 4096) {l : List (List Int)} (hw : WfL V l) {c : List Int} (hc : WfC V c) (h : ZAi l c = true) : ZI0 V l c = true := by
 unfold ZI0
 rw [List.all_eq_true]
 intro m hm
 obtain ⟨h1, h2, h3⟩ := ZCI.1 hm
 exact ZF1 hV hw hc (ZGD h1 h2) h3 h
set_option maxHeartbeats 8000000 in
theorem ZEq (V : Nat) (l : List (List Int)) (c : List Int) (hV : V ≤ 10) (hck : ZQ (V : Int) l = 0) (hc : WfC V c) : Fn Tryz.prog 14 [dS Cls ((V : Int), l), dS ZW c] (dT [dB (ZI0 V l c), dI 0]) := by
 obtain ⟨_, _, hll, hcl⟩ := Zc hck
 have hw : WfL V l := (Zs (by omega)).1 hcl
 have h1 := ZEp (V : Int) l c (ZFX (by omega) hw)
 have hcc : ZR (V : Int) none c = 0 := (ZAX (by omega)).2 hc
 have e1 : Za (V : Int) l c = (ZAi l c, 0) := by unfold Za; rw [if_neg (by simp [hck]), if_neg (by simp [hcc])]
 rw [e1] at h1
 have hcn : c.length ≤ V := S43.trail_len hc.rng (hc.inc.imp fun h => by omega)
 have hb := ZFt V l (by omega) hw (by omega)
 have hnl : (ngI c).length = c.length := by simp [ngI]
 have hnr : ∀ x ∈ ngI c, x ≠ 0 /\ x.natAbs ≤ V := fun x hx => by
  obtain ⟨y, y1, rfl⟩ := List.mem_map.1 hx
  have := hc.rng y y1
  omega
 have hr := fun (X : Lay) (hX : X.cf = 0) => ZMJ X V (ngI c) l hV (by omega) hnr (by omega) hw hX
 (refine ZAM Tryz.func14 rfl rfl ?_; simp only [Tryz.ntmps14, List.length_cons, List.length_nil, Nat.reduceAdd, Nat.reduceSub, List.replicate_succ, List.replicate_zero, List.cons_append, List.nil_append])
 cases hf : ZAi l c with
 | true =>
  rw [hf] at h1
  have hi := ZHe (by omega) hw hc hf
  ((repeat' (first | (apply WL.opN; exact yF; dsimp only [ZB, z0, z1]) | refine WL.nil ?_ | refine ZA fun Kx hK => ?_ | (refine hK _ _ ?_; clear hK) | refine WC.region ?_ | (apply ZJ; (focus (first | exact wN | (apply SYG.yes; (exact wY); ((first | (apply SY.call (h1) Tryz.call40; (exact aD)) | (apply Z7; (exact oD); (with_reducible rfl); (exact oD)) | (apply SY.extract; (exact oD); rfl) | (apply SY.box; (exact oD); (exact hD)) | fail); all_goals infer_instance)))); dsimp only [ZB, z0, z1]) | (apply Zj; (exact oD); (with_reducible rfl)) | refine WC.ret ?_ | refine ThenD.r ?_)); all_goals (first | ((repeat clear hK); (repeat clear Kx))))
  all_goals try (exfalso; first | contradiction | omega)
  (refine ⟨trivial, ⟨_, rfl, ?_⟩, _, rfl, ?_⟩ <;> (first | exact fD | refine FinD.b ?_))
  exact hi.symm
 | false =>
  rw [hf] at h1
  refine ZAH 3 RI ?_
  (repeat' (first | (apply WL.opN; exact yF; dsimp only [ZB, z0, z1]) | refine WL.nil ?_ | refine ZA fun Kx hK => ?_ | (refine hK _ _ ?_; clear hK) | refine WC.region ?_ | (apply ZJ; (focus (first | exact wN | (apply SYG.yes; (exact wY); ((first | (apply SY.call (h1) Tryz.call40; (exact aD)) | ((first | apply SY.move | apply SY.assign | apply SY.lss | apply SY.eql | apply SY.neq) <;> (exact oD)) | (apply SY.len; (exact oD); (exact nD); (exact uD)) | (apply Zp; (exact oD); (with_reducible rfl); (exact oD)) | (apply SY.extract; (exact oD); rfl) | (apply SY.box; (exact oD); (exact hD)) | fail); all_goals infer_instance)))); dsimp only [ZB, z0, z1]) | (apply ZO; (exact oD); all_goals (intro h; try exact xD)) | refine WC.skip ?_ | refine WC.block ?_))
  all_goals try (exfalso; first | contradiction | omega)
  (refine ZP (X := Nat × Value) (fun x => [(28, dI (x.1 : Int)), (8, dX x.2), (10, dA), (29, dA), (30, dA), (31, dA), (32, dA), (33, dA), (34, dA), (35, dA), (36, dA), (37, dA)]) (fun x => ([ZS x.2 3 RI (ngI (c.take x.1))])) (fun x => c.length - x.1) (fun x => x.1 ≤ c.length) (0, ZCX) ?start ?frame0 ?objs0 ?round)
  case start => exact Nat.zero_le _
  case frame0 => ((try dsimp only [ZX, z0, z1]); repeat (first | exact LeF.nil | refine ZG (k := ?_)))
  case objs0 => rfl
  case round =>
   rintro ⟨i, vo⟩ hi
   simp only at hi
   dsimp only [ZX, z0, z1]
   by_cases hil : i < c.length
   ·have hlti : (i : Int) < (c.length : Int) := by omega
    obtain ⟨x, hx⟩ : ∃ x, c[i] = x := ⟨_, rfl⟩
    have hxr := hc.rng x (by rw [<- hx]; exact List.getElem_mem hil)
    have et := ZL5 (c := c) hil
    rw [hx] at et
    have hcln : (ngI (c.take i)).length = i := by simp [ngI]; omega
    have h24 : ((ngI (c.take i)).length + 1) * 8 ≤ 140737488355328 := by omega
    ((repeat' (first | (apply WL.opN; exact yF; dsimp only [ZB, z0, z1]) | refine WL.nil ?_ | refine ZA fun Kx hK => ?_ | (refine hK _ _ ?_; clear hK) | refine WC.region ?_ | ((first | apply WL.pushK | apply ZAS); (exact eD); exact OpD.t rfl; (exact oD); (intro _; exact hD); (exact (by simp)); (exact (by simp)); (first | exact ⟨by decide, by decide⟩ | skip); decide; (exact lD); (intro _; dsimp only [ZB, z0, z1]); all_goals (try infer_instance)) | (apply ZJ; (focus (first | exact wN | (apply SYG.yes; (exact wY); ((first | (refine Z0 (R := RI) (_gR := inferInstance) elI hil hx (OpD.t rfl) (OpD.t rfl)) | (exact SY.neg (OpD.t rfl) (by omega)) | ((first | apply SY.move | apply SY.assign | apply SY.lss | apply SY.eql | apply SY.neq) <;> (exact oD)) | ((first | apply SY.add) <;> first | exact oD | omega) | fail); all_goals infer_instance)))); dsimp only [ZB, z0, z1]) | (apply ZC; (exact oD); all_goals (intro h; try exact xD)) | refine WC.skip ?_ | refine WC.block ?_ | refine ThenD.n ?_)); all_goals (first | ((repeat clear hK); (repeat clear Kx))))
    all_goals try (exfalso; first | contradiction | omega)
    rw [<- et]
    (refine ⟨(i + 1, _), ?_, by first | omega | (simp only; omega), rfl, ?_⟩; rotate_left; ((try dsimp only [ZX, z0, z1]); repeat (first | exact LeF.nil | refine ZG (k := ?_))); (try dsimp only))
    omega
   ·have hlti : ¬ (i : Int) < (c.length : Int) := by omega
    obtain rfl : i = c.length := by omega
    rw [List.take_length]
    (repeat' (first |  (refine WC.only 10 (Halt.go ?_)) | refine WL.nil ?_ | refine ZA fun Kx hK => ?_ | (refine hK _ _ ?_; clear hK) | (refine Kont.skip ?_; clear hK) | refine WC.region ?_ | (apply ZJ; (focus (first | exact wN | (apply SYG.yes; (exact wY); ((first | ((first | apply SY.move | apply SY.assign | apply SY.lss | apply SY.eql | apply SY.neq) <;> (exact oD)) | fail); all_goals infer_instance)))); dsimp only [ZB, z0, z1]) | (apply ZC; (exact oD); all_goals (intro h; try exact xD)) | refine WC.exit ?_))
    all_goals try (exfalso; first | contradiction | omega)
    refine ⟨ZA2 (s := 8) rfl ?_⟩
    dsimp only [z0, z1]
    (repeat' (first |  (refine WC.only 11 (Halt.go ?_)) | (apply WL.opN; exact yF; dsimp only [ZB, z0, z1]) | refine WL.nil ?_ | refine ZA fun Kx hK => ?_ | (refine hK _ _ ?_; clear hK) | refine WC.region ?_ |  (refine WL.callC (hp1 := []) (caps := []) hb Tryz.call33 OpD.f (ArgsD.cons (OpD.t rfl) (ArgsD.cons (OpD.t rfl) ArgsD.nil)) ?_; rintro d' hp2 ⟨X, hX, rfl, rfl⟩; dsimp only [ZB, z0, z1]) |  (refine WL.callC (hp := []) (hp1 := ZFb X V (ZAO l) [] []) (caps := []) (hr X hX) Tryz.call34 OpD.f (ArgsD.cons (OpD.t rfl) (ArgsD.cons (OpD.t rfl) ArgsD.nil)) ?_; rintro d' hp2 ⟨k, res, lr, Y, s, rfl, rfl, hYb, hRR, hSS⟩; dsimp only [ZB, z0, z1, List.cons_append, List.nil_append]) | (apply ZJ; (focus (first | exact wN | (apply SYG.yes; (exact wY); ((first | (apply ZT clT; exact OpD.t rfl) | (apply ZU clT; exact OpD.t rfl) | (apply SY.extract; (exact oD); rfl) | fail); all_goals infer_instance)))); dsimp only [ZB, z0, z1])))
    all_goals try (exfalso; first | contradiction | omega)
    refine ⟨?_⟩
    rcases hRR.is with rfl | rfl
    ·have hi2 := hRR.imp hc
     clear hRR hSS
     ((repeat' (first | (apply WL.opN; exact yF; dsimp only [ZB, z0, z1]) | refine WL.nil ?_ | refine ZA fun Kx hK => ?_ | (refine hK _ _ ?_; clear hK) | refine WC.region ?_ | (apply ZJ; (focus (first | exact wN | (apply SYG.yes; (exact wY); ((first | ((first | apply SY.move | apply SY.assign | apply SY.lss | apply SY.eql | apply SY.neq) <;> (exact oD)) | fail); all_goals infer_instance)))); dsimp only [ZB, z0, z1]) | (apply ZC; (exact oD); all_goals (intro h; try exact xD)) | refine WC.skip ?_ | refine WC.ret ?_)); all_goals (first | ((repeat clear hK); (repeat clear Kx))))
     all_goals try (exfalso; first | contradiction | omega)
     (refine ⟨trivial, ⟨_, rfl, ?_⟩, _, rfl, ?_⟩ <;> (first | exact fD | refine FinD.b ?_))
     exact hi2.symm
    ·have hi2 := hRR.imp hc
     clear hRR hSS
     ((repeat' (first | (apply WL.opN; exact yF; dsimp only [ZB, z0, z1]) | refine WL.nil ?_ | refine ZA fun Kx hK => ?_ | (refine hK _ _ ?_; clear hK) | refine WC.region ?_ | (apply ZJ; (focus (first | exact wN | (apply SYG.yes; (exact wY); ((first | ((first | apply SY.move | apply SY.assign | apply SY.lss | apply SY.eql | apply SY.neq) <;> (exact oD)) | fail); all_goals infer_instance)))); dsimp only [ZB, z0, z1]) | (apply ZC; (exact oD); all_goals (intro h; try exact xD)) | refine WC.skip ?_ | refine WC.ret ?_)); all_goals (first | ((repeat clear hK); (repeat clear Kx))))
     all_goals try (exfalso; first | contradiction | omega)
     (refine ⟨trivial, ⟨_, rfl, ?_⟩, _, rfl, ?_⟩ <;> (first | exact fD | refine FinD.b ?_))
     exact hi2.symm
end
section
open Go.RowKit
section
variable {P : Program} {ops : Array Oper} {hp : List HObj} {fr : List Dat} {Q : ZAb} {rest : List Oper} {dst : Option Tmp} {ty : TypeId} {ps : String} {af : Array Edge} {t e : TypeId} {z : Value} {bytes : Nat}
theorem ZM3 {α : Type} {R : Rel α} {_gR : Good R} {len : Nat} {parts : Array (Nat × Operand)} {els : List α} (E : ElT P t e 1 z bytes false) (hx : ElsD fr R (parts.toList.map Prod.snd) els) (hparts : parts.toList = ((parts.toList.map Prod.snd).zipIdx).map (fun p => (p.2, p.1))) (hl : len = els.length) (hs : ∀ a, (dS R a).Shape 1 false) (hsm : els.length * 1 ≤ 16777216)
  (h : ∀ v, WL P ops Q rest (ZB fr dst (dX v)) (ZS v e R els :: hp)) : WL P ops Q (⟨dst, .buildSlice t len parts, ty, ps, af, none⟩ :: rest) fr hp := by
 refine WL.of fun P0 B w0 w a hh hf => ?_
 obtain ⟨css, hr, hcl, hcn, hel⟩ := ZCu (ops := ops) (dst := dst) (ty := ty) (ps := ps) (af := af) (g := none) E hx hl hparts hs hsm hh (hf.on _)
 refine Z6 rfl hr ?_
 have hx := ZF w (.cells css.flatten.toArray e)
 have hob : ∀ k, (ZS (.slice (some ⟨w.heap.size, 0, none⟩) els.length els.length) e R els).blk = some k -> w.heap.size ≤ k /\ k < (w.alloc (.cells css.flatten.toArray e)).heap.size := fun k hk => by
  cases hk
  exact ⟨Nat.le_refl _, by simp⟩
 have hfl : css.flatten.length = els.length * 1 := by rw [ZHc (n := 1) fun u hu => (hcn u hu).1, hcl]
 have h1 : ∀ u ∈ css.flatten, u.oneCell' = true := fun u hu => by
  obtain ⟨cs, hcs, hu'⟩ := List.mem_flatten.1 hu
  exact (hcn cs hcs).2 u hu'
 refine (h _).on (hh.push (o := ZS (.slice (some ⟨w.heap.size, 0, none⟩) els.length els.length) e R els) hx hob ⟨css.flatten, by omega, ⟨hfl, .inr ⟨w.heap.size, els.length, css.flatten.toArray, rfl, Nat.zero_le _, ZAT w _, Nat.le_refl _, by simp only [maxLen]; omega, by simpa using hfl, ?_⟩⟩, fun k h h' => ?_⟩) (Fr.put (hf.mono fun d _ hd => ZAZ hx (fun k hk => (hob k hk).1) hd) rfl)
 ·show css.flatten.take _ = css.flatten
  rw [<- hfl, List.take_length]
 ·have hkc : k < css.length := by omega
  obtain ⟨u, hu, hR⟩ := hel k css[k] els[k] (List.getElem?_eq_getElem hkc) (List.getElem?_eq_getElem h')
  simp only [Bool.false_eq_true, if_false] at hu
  have hfk : css.flatten[k]? = some u := by
   have := ZAe (us := css) (n := 1) (k := k) (j := 0) (c := u) (fun u hu => (hcn u hu).1) hkc (by rw [hu]; rfl)
   simpa using this
  have hku : css.flatten[k] = u := by
   rw [List.getElem?_eq_getElem h] at hfk
   exact Option.some.inj hfk
  refine ⟨h1 _ (List.getElem_mem h), ?_⟩
  rw [hku]
  exact Good.ext (R := R) (Good.weak (Good.bound hR) fun j hj => ⟨hj, fun e => by cases e; exact absurd hj.2 (Nat.lt_irrefl _)⟩) hx
end
def ZFh (l : List (List Int)) (a : List Int) : Int := ZKV (fun c => !Zx c a) 0 l
theorem ZJU (l : List (List Int)) (a : List Int) : decide (ZFh l a < 0) = l.all fun c => Zx c a := by
 have := ZF4 (p := fun c => !Zx c a) l 0
 unfold ZFh
 have h2 : (l.all fun c => Zx c a) = !(l.any fun c => !Zx c a) := by
  clear this
  induction l with
  | nil => rfl
  | cons c l ih => rw [List.all_cons, List.any_cons, ih, Bool.not_or, Bool.not_not]
 rw [h2, <- this, <- decide_not]
 exact decide_eq_decide.2 (by omega)
theorem ZLJ (l : List (List Int)) (a : List Int) : Fn Tryz.prog 12 [dS Rows l, dS ZW a] (dI (ZFh l a)) := by
 (refine Zb Tryz.func12 rfl rfl ?_; simp only [Tryz.ntmps12, List.length_cons, List.length_nil, Nat.reduceAdd, Nat.reduceSub, List.replicate_succ, List.replicate_zero, List.cons_append, List.nil_append])
 (repeat' (first | (apply WL.opN; exact yF; dsimp only [ZB, z0, z1]) | refine WL.nil ?_ | refine ZA fun Kx hK => ?_ | (refine hK _ _ ?_; clear hK) | refine WC.region ?_ | refine WC.block ?_))
 (first | refine ZCb (t := 0) rfl le_K fun hl0 => ?_ | refine ZCb (t := 0) rfl le_A fun hl0 => ?_); simp only [maxLen] at hl0
 (refine ZP (X := Nat) (fun k => [(5, dI (k : Int)), (4, dA), (6, dA), (7, dA), (8, dA), (9, dA), (10, dA), (11, dA), (12, dA), (13, dA), (14, dA), (15, dA), (16, dA), (17, dA), (18, dA), (19, dA)]) (fun k => []) (fun k => l.length - k) (fun k => k ≤ l.length /\ ZFh l a = ZKV (fun c => !Zx c a) k (l.drop k)) 0 ?start ?frame0 ?objs0 ?round)
 case start => exact ⟨Nat.zero_le _, rfl⟩
 case frame0 => ((try dsimp only [ZX, z0, z1]); repeat (first | exact LeF.nil | refine ZG (k := ?_)))
 case objs0 => rfl
 case round =>
  rintro k ⟨h1, h2⟩
  dsimp only [ZX, z0, z1]
  by_cases hk : k < l.length
  ·have hlt : (k : Int) < (l.length : Int) := by omega
   have ht := ZGL l[k] a
   rw [ZEo hk] at h2
   cases hc : Zx l[k] a with
   | true =>
    rw [hc] at ht
    rw [if_neg (by rw [hc]; decide)] at h2
    ((repeat' (first | (apply WL.opN; exact yF; dsimp only [ZB, z0, z1]) | refine WL.nil ?_ | refine ZA fun Kx hK => ?_ | (refine hK _ _ ?_; clear hK) | refine WC.region ?_ | (apply WL.opN; (focus ((first | (refine ZAy (R := ZW) (_gR := inferInstance) (k := k) ZB7 (OpD.t rfl) (OpD.t rfl) hk) | (apply SY.call (ht) Tryz.call39; (exact aD)) | ((first | apply SY.move | apply SY.assign | apply SY.lss | apply SY.not) <;> (exact oD)) | ((first | apply SY.add) <;> first | exact oD | omega) | (apply SY.len; (exact oD); (exact nD); (exact uD)) | fail); all_goals infer_instance)); dsimp only [ZB, z0, z1]) | (apply ZC; (exact oD); all_goals (intro h; try exact xD)) | (apply ZL; (exact oD); all_goals (intro h; try exact xD)) | refine WC.skip ?_ | refine WC.block ?_ | refine ThenD.n ?_)); all_goals (first | ((repeat clear hK); (repeat clear Kx))))
    all_goals try (exfalso; first | contradiction | omega)
    (refine ⟨k + 1, ?_, by first | omega | (simp only; omega), rfl, ?_⟩; rotate_left; ((try dsimp only [ZX, z0, z1]); repeat (first | exact LeF.nil | refine ZG (k := ?_))); (try dsimp only))
    exact ⟨by omega, h2⟩
   | false =>
    rw [hc] at ht
    rw [if_pos (by rw [hc]; decide)] at h2
    ((repeat' (first | (apply WL.opN; exact yF; dsimp only [ZB, z0, z1]) | refine WL.nil ?_ | refine ZA fun Kx hK => ?_ | (refine hK _ _ ?_; clear hK) | refine WC.region ?_ | (apply WL.opN; (focus ((first | (refine ZAy (R := ZW) (_gR := inferInstance) (k := k) ZB7 (OpD.t rfl) (OpD.t rfl) hk) | (apply SY.call (ht) Tryz.call39; (exact aD)) | ((first | apply SY.move | apply SY.assign | apply SY.lss | apply SY.not) <;> (exact oD)) | (apply SY.len; (exact oD); (exact nD); (exact uD)) | fail); all_goals infer_instance)); dsimp only [ZB, z0, z1]) | (apply ZC; (exact oD); all_goals (intro h; try exact xD)) | (apply ZL; (exact oD); all_goals (intro h; try exact xD)) | refine WC.skip ?_ | refine WC.ret ?_ | refine WC.block ?_ | refine ThenD.r ?_ | refine InBlockD.r ?_)); all_goals (first | ((repeat clear hK); (repeat clear Kx))))
    all_goals try (exfalso; first | contradiction | omega)
    (refine ⟨trivial, _, rfl, ?_⟩; refine ZBP ?_)
    exact h2.symm
  ·have hlt : ¬ (k : Int) < (l.length : Int) := by omega
   ((repeat' (first | (apply WL.opN; exact yF; dsimp only [ZB, z0, z1]) | refine WL.nil ?_ | refine ZA fun Kx hK => ?_ | (refine hK _ _ ?_; clear hK) | (refine Kont.skip ?_; clear hK) | refine WC.region ?_ | (apply WL.opN; (focus ((first | ((first | apply SY.move | apply SY.assign | apply SY.lss | apply SY.not) <;> (exact oD)) | (apply SY.len; (exact oD); (exact nD); (exact uD)) | fail); all_goals infer_instance)); dsimp only [ZB, z0, z1]) | (apply ZC; (exact oD); all_goals (intro h; try exact xD)) | refine WC.ret ?_ | refine WC.exit ?_)); all_goals (first | ((repeat clear hK); (repeat clear Kx))))
   all_goals try (exfalso; first | contradiction | omega)
   (refine ⟨trivial, _, rfl, ?_⟩; refine ZBP ?_)
   rw [h2, List.drop_of_length_le (by omega)]; rfl
theorem ZIb (a : List Int) (x : Int) (ha : a.length ≤ 1000000) : Fn Tryz.prog 83 [dS ZW a, dI x] (dS ZW (a ++ [x])) := by
 (refine Zb Tryz.func83 rfl rfl ?_; simp only [Tryz.ntmps83, List.length_cons, List.length_nil, Nat.reduceAdd, Nat.reduceSub, List.replicate_succ, List.replicate_zero, List.cons_append, List.nil_append])
 have h1 : (([] : List Int).length + a.length) * 8 ≤ 140737488355328 := by simp; omega
 have h2 : (([] ++ a : List Int).length + 1) * 8 ≤ 140737488355328 := by simp; omega
 ((repeat' (first | (apply WL.opN; exact yF; dsimp only [ZB, z0, z1]) | refine WL.nil ?_ | refine ZA fun Kx hK => ?_ | (refine hK _ _ ?_; clear hK) | refine WC.region ?_ |  (refine ZM3 (els := ([] : List Int)) elI Zy rfl rfl (fun _ => Zf) (by simp) fun v => ?_; dsimp only [ZB, z0, z1]) |  (refine ZK (SW.app1 elI (R := RI) (_gR := inferInstance) (OpD.t rfl) (OpD.t rfl) (by decide) h1) fun v2 => ?_; dsimp only [ZB, z0, z1]) |  (refine ZK (SW.app1 elI (R := RI) (_gR := inferInstance) (OpD.t rfl) (OpD.t rfl) (by decide) h2) fun v3 => ?_; dsimp only [ZB, z0, z1]) | ((first | apply WL.pushK | apply ZAS); (exact eD); exact OpD.t rfl; (exact oD); (intro _; exact hD); (exact (by simp)); (exact (by simp)); (first | exact ⟨by decide, by decide⟩ | skip); decide; (exact lD); (intro _; dsimp only [ZB, z0, z1]); all_goals (try infer_instance)) | refine WC.ret ?_)); all_goals (first | ((repeat clear hK); (repeat clear Kx))))
 all_goals ((refine ⟨trivial, _, rfl, ?_⟩; exact fD))
end
end Go.Proofs.YtjmignmnlpamjaaGreat
