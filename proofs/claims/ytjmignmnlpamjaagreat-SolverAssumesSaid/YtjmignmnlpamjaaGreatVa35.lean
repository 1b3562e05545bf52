/- Part 35: walks by contracts, and plain laws. -/
import Derived.Test.YtjmignmnlpamjaaGreatVa33
set_option linter.unusedVariables false
set_option linter.unusedSimpArgs false
set_option linter.unusedSectionVars false
set_option maxRecDepth 100000
set_option maxHeartbeats 4000000
namespace Go.Proofs.YtjmignmnlpamjaaGreat
section
open Go.RowKit
open S43 (SS up Inv Zw ZBR)
abbrev BS := (Nat -> Bool) × (Int -> Bool)
abbrev blO (X : Lay) (V : Nat) (s : SS) (b7 bg bm : Nat) (st : BS) (B : List HObj) : List HObj :=
 ZAB b7 101 1 false (dX (.map (some bg))) :: hG bg kvI ZAF vvB (ZEw st.2) :: hG bm kvI ZAF vvB (ZDq st.1) :: oS X V s :: oV X s :: oL X s :: oR X s :: oT X s :: oB X s :: oW X :: oC X s :: (ZEI X s ++ (ZEJ X V s ++ B))
def ZHg (f : Nat -> Bool) (c : List Int) : Nat -> Bool := c.foldl (fun f z => up f z.natAbs true) f
theorem ZKe {f : Nat -> Bool} {c : List Int} {j : Nat} (h : j < c.length) : ZHg f (c.take (j + 1)) = up (ZHg f (c.take j)) (c[j]).natAbs true := by
 unfold ZHg
 rw [List.take_succ_eq_append_getElem h, List.foldl_append]; rfl
theorem ZLm {t : List Int} {q : Nat} (h : q < t.length) (s : SS) (st : BS) : (t.drop q).reverse.foldl (Zw s) st = Zw s ((t.drop (q + 1)).reverse.foldl (Zw s) st) t[q] := by
 rw [List.drop_eq_getElem_cons h, List.reverse_cons, List.foldl_append]; rfl
theorem ZM7 {c g m S V L R T B W C : HObj} {hp : List HObj} : (m :: c :: g :: S :: V :: L :: R :: T :: B :: W :: C :: hp).Perm (c :: g :: m :: S :: V :: L :: R :: T :: B :: W :: C :: hp) :=
 (List.Perm.swap _ _ _).trans (List.Perm.cons _ (List.Perm.swap _ _ _))
theorem ZLe {v c g m S V L R T B W C : HObj} {hp : List HObj} : (v :: c :: g :: m :: S :: V :: L :: R :: T :: B :: W :: C :: hp).Perm ([c, g, m] ++ (v :: S :: V :: L :: R :: T :: B :: W :: C :: hp)) := (List.perm_middle (l₁ := [c, g, m])).symm
theorem ZJm {ops : Array Oper} {hp : List HObj} {fr : List Dat} {dst : Option Tmp} {ty : TypeId} {ps : String} {af : Array Edge} {g : Option (Nat × Bool)} {b : Nat} {x y : Operand} {rea : Nat -> Option Nat} {l r : Nat} {u : Bool} (h1 : (rea l).isSome = u) (h2 : (rea l).getD 0 = r) (hx : OpD fr x (dX (.map (some b)))) (hm : hG b kvI ZAF kvI (ZHO rea) ∈ hp) (hy : OpD fr y (dI (l : Int))) (ho : ZAF (l : Int)) :
  SY Tryz.prog ops hp ⟨dst, .lookup 87 x y true, ty, ps, af, g⟩ fr (dT [dI (r : Int), dB u]) := by
 have := ZLP (ops := ops) (dst := dst) (ty := ty) (ps := ps) (af := af) (g := g) hx hm hy ho
 rwa [h1, h2] at this
theorem ZLf (b7 bg : Nat) (gl : Int -> Bool) (x : Int) (hx : x.natAbs ≤ 1000000) : CallC Tryz.prog 106 ([dI x] ++ [ZDE b7].map dX) [ZAB b7 101 1 false (dX (.map (some bg))), hG bg kvI ZAF vvB (ZEw gl)] (fun d hp2 => d = dB (!gl x) /\ hp2 = [ZAB b7 101 1 false (dX (.map (some bg))), hG bg kvI ZAF vvB (ZEw gl)]) := by
 (refine Zo Tryz.func106 rfl rfl (fun hp => ?_); simp only [Tryz.ntmps106, List.length_cons, List.length_nil, List.length_append, List.length_map, Nat.reduceAdd, Nat.reduceSub, List.replicate_succ, List.replicate_zero, List.cons_append, List.nil_append, List.map_cons, List.map_nil, List.append_assoc])
 have h6 : ZAF x := i64 hx
 ((repeat' (first | (apply WL.opN; exact yF; dsimp only [ZB, z0, z1]) | refine WL.nil ?_ | refine ZA fun Kx hK => ?_ | (refine hK _ _ ?_; clear hK) | refine WC.region ?_ | (apply WL.opN; (focus ((first | (apply Z1 tyF; exact OpD.t rfl; exact mAt 0 rfl) | (exact SY.valG (OpD.t rfl) (mAt 1 rfl) (OpD.t rfl) h6) | ((first | apply SY.move | apply SY.assign | apply SY.not) <;> (exact oD)) | fail); all_goals infer_instance)); dsimp only [ZB, z0, z1]) | refine WC.ret ?_)); all_goals (first | ((repeat clear hK); (repeat clear Kx))))
 all_goals exact ⟨trivial, _, [_, _], rfl, rfl, rfl, rfl⟩
set_option maxHeartbeats 32000000 in
theorem ZM9 (X : Lay) (V : Nat) (s : SS) (am : List Int) (l : Int) (hV : V ≤ 100000) (hI : Inv V s s.watch fun _ => False) (hs : s.list.length ≤ 1000000000000) (hl : l.natAbs ≤ V) (ha : ∀ x ∈ am, x.natAbs ≤ V) (hal : am.length ≤ 1000000) :
  CallC Tryz.prog 76 ([dX (ZDZ X), dS ZW am, dI l] ++ ([] : List Value).map dX) (ZCR X V s) (fun d hp2 => ∃ v b7 bg bm st, d = dX v /\ hp2 = ZS v tI RI (ZBR s am l) :: blO X V s b7 bg bm st []) := by
 (refine Zo Tryz.func76 rfl rfl (fun hp => ?_); simp only [Tryz.ntmps76, List.length_cons, List.length_nil, List.length_append, List.length_map, Nat.reduceAdd, Nat.reduceSub, List.replicate_succ, List.replicate_zero, List.cons_append, List.nil_append, List.map_cons, List.map_nil, List.append_assoc])
 rw [ZEk]
 simp only [core, List.cons_append, List.nil_append]
 have hvl := ZAa l (by omega)
 have hl6 : ZAF l := i64 (by omega)
 have hl7 : ZAF ((l.natAbs : Nat) : Int) := by unfold ZAF; omega
 have htl := hI.toInv0.tlen
 (repeat' (first | ((first | apply WL.opN | apply WD.opN); exact yF; dsimp only [ZB, z0, z1]) | refine WL.nil ?_ | refine ZA fun Kx hK => ?_ | (refine hK _ _ ?_; clear hK) | refine WC.region ?_ |  (refine ZBd (dst := some 15) kvI ZAF vvB (ZEw fun _ => false) (fun _ => rfl) fun bg => ?_; dsimp only [ZB, z0, z1]) |  (refine ZK (SW.at 0 rfl fun q => ZJg (ZEw (up (fun _ => false) l true)) ZCk ZAP (OpD.t rfl) (OpD.t rfl) isI OpD.b isB hl6 ZGB) fun _ => ?_; dsimp only [ZB, z0, z1]) |  (refine WL.alloc (T := 101) tzMb (Z8 rfl) fun b7 => ?_; dsimp only [ZB, z0, z1]) |  (refine ZK (ZAD tyF (OpD.t rfl) (OpD.t rfl) (Z8 rfl)) fun _ => ?_; dsimp only [ZB, z0, z1]) |  (refine ZBd (dst := some 18) kvI ZAF vvB (ZDq fun _ => false) (fun _ => rfl) fun bm => ?_; dsimp only [ZB, z0, z1]) |  (refine ZK (SW.at 0 rfl fun q => ZJg (ZDq (up (fun _ => false) l.natAbs true)) ZCk ZAP (OpD.t rfl) (OpD.t rfl) isI OpD.b isB hl7 ZGA) fun _ => WL.perm ZM7 ?_; dsimp only [ZB, z0, z1]) | ((first | apply ZJ | apply WD.op); (focus (first | exact wN | (apply SYG.yes; (exact wY); ((first | (apply SY.call (hvl) Tryz.call100; (exact aD)) | (exact ZH (OpD.t rfl)) | (refine ZM ZAz (OpD.t rfl) (by decide)) | (apply ZI; exact ZAl; exact OpD.t rfl; exact mAt 3 rfl; rfl) | (apply Z3; exact OpD.t rfl; exact mAt 7 rfl; exact elI.unt) | ((first | apply SY.add | apply SY.sub) <;> first | exact oD | omega) | fail); all_goals infer_instance)))); dsimp only [ZB, z0, z1]) | refine WC.block ?_))
 (refine ZP (X := Nat × BS) (fun x => [(9, dI ((x.1 : Int) - 1)), (10, dA), (11, dA), (12, dA), (14, dA), (28, dA), (29, dA), (30, dA), (31, dA), (32, dA), (33, dA), (34, dA), (35, dA), (36, dA), (37, dA), (38, dA), (39, dA), (40, dA), (41, dA), (42, dA), (43, dA), (44, dA), (45, dA), (46, dA), (47, dA), (48, dA), (49, dA), (50, dA), (51, dA), (52, dA), (53, dA), (54, dA), (55, dA), (56, dA), (57, dA), (58, dA), (59, dA), (60, dA), (61, dA), (62, dA), (63, dA), (64, dA), (65, dA), (66, dA), (67, dA), (68, dA), (69, dA), (70, dA), (71, dA), (72, dA), (73, dA), (74, dA), (75, dA), (76, dA), (77, dA), (78, dA), (79, dA), (80, dA), (81, dA), (82, dA)]) (fun x => (blO X V s b7 bg bm x.2 hp)) (fun x => x.1) (fun x => x.1 ≤ s.trail.length /\ (s.trail.drop x.1).reverse.foldl (Zw s) (up (fun _ => false) l.natAbs true, up (fun _ => false) l true) = x.2) (s.trail.length, (up (fun _ => false) l.natAbs true, up (fun _ => false) l true)) ?start ?frame0 ?objs0 ?round)
 case start => exact ⟨Nat.le_refl _, by rw [List.drop_length]; rfl⟩
 case frame0 => ((try dsimp only [ZX, z0, z1]); repeat (first | exact LeF.nil | refine ZG (k := ?_)))
 case objs0 => rfl
 case round =>
  rintro ⟨p, st⟩ ⟨hp1, hst⟩
  simp only at hp1 hst
  dsimp only [ZX, z0, z1]
  rcases Nat.eq_zero_or_pos p with rfl | hp0
  ·have hge : ¬ ((0 : Nat) : Int) - 1 ≥ 0 := by omega
   rw [List.drop_zero] at hst
   have hbl : ZBR s am l = am.filter st.2 := by unfold ZBR; rw [hst]
   have hD := fun v => ZGj v am hal 106 [ZDE b7] Tryz.call106 [ZAB b7 101 1 false (dX (.map (some bg))), hG bg kvI ZAF vvB (ZEw st.2)] (fun y => !st.2 y) (fun y hy => ZLf b7 bg st.2 y (by have := ha y hy; omega))
   have ef : (am.filter fun x => !(!st.2 x)) = ZBR s am l := by rw [hbl]; congr 1; funext x; simp
   rw [ef] at hD
   ((repeat' (first | ((first | apply WL.opN | apply WD.opN); exact yF; dsimp only [ZB, z0, z1]) | refine WL.nil ?_ | refine ZA fun Kx hK => ?_ | (refine hK _ _ ?_; clear hK) | (refine Kont.skip ?_; clear hK) | refine WC.region ?_ |  (refine WL.callC (hp1 := []) (caps := []) (ZDk am hal) Tryz.call45 OpD.f (by (exact aD)) ?_; rintro d' hp2 ⟨vc, rfl, rfl⟩; dsimp only [ZB, z0, z1, List.cons_append, List.nil_append]) |  (refine WL.callC (hp1 := [ZS vc tI RI am, ZAB b7 101 1 false (dX (.map (some bg))), hG bg kvI ZAF vvB (ZEw st.2)]) (caps := []) (hD vc) Tryz.call105 OpD.f (ArgsD.cons (OpD.t rfl) (ArgsD.cons (OpD.t rfl) ArgsD.nil)) ?_; rintro d' hp2 ⟨vd, rfl, rfl⟩; dsimp only [ZB, z0, z1, List.cons_append, List.nil_append]) | ((first | apply ZJ | apply WD.op); (focus (first | exact wN | (apply SYG.yes; (exact wY); ((first | (exact ZBJ (vs := [ZDE b7]) (ArgsX.one (OpD.t rfl))) | ((first | apply SY.move | apply SY.assign | apply SY.lss | apply SY.geq | apply SY.eql | apply SY.not) <;> (exact oD)) | fail); all_goals infer_instance)))); dsimp only [ZB, z0, z1]) | (apply ZC; (exact oD); all_goals (intro h; try exact xD)) | refine WC.ret ?_ | refine WC.exit ?_)); all_goals (first | ((repeat clear hK); (repeat clear Kx))))
   all_goals try (exfalso; first | contradiction | omega)
   exact ⟨trivial, _, ZS vd tI RI (ZBR s am l) :: blO X V s b7 bg bm st [], rfl, by simp only [List.cons_append, List.append_assoc, List.nil_append], vd, b7, bg, bm, st, rfl, rfl⟩
  ·obtain ⟨q, rfl⟩ : ∃ q, p = q + 1 := ⟨p - 1, by omega⟩
   have hge : ((q + 1 : Nat) : Int) - 1 ≥ 0 := by omega
   have hqt : q < s.trail.length := by omega
   have hqi : ((q + 1 : Nat) : Int) - 1 = (q : Int) := by omega
   obtain ⟨x, hx⟩ : ∃ x, s.trail[q] = x := ⟨_, rfl⟩
   have hxm : x ∈ s.trail := by rw [<- hx]; exact List.getElem_mem hqt
   have hxe : s.trail[q]? = some x := by rw [List.getElem?_eq_getElem hqt, hx]
   have hxr := hI.trng x hxm
   have hvx := ZAa x (by omega)
   have hx6 : ZAF ((x.natAbs : Nat) : Int) := by unfold ZAF; omega
   have hx7 : ZAF x := i64 (by omega)
   have hdr := ZLm hqt s (up (fun _ => false) l.natAbs true, up (fun _ => false) l true)
   rw [hst, hx] at hdr
   cases hse : st.1 x.natAbs with
   | false =>
    have e : Zw s st x = st := by unfold Zw; rw [if_pos (.inl hse)]
    rw [e] at hdr
    ((repeat' (first | ((first | apply WL.opN | apply WD.opN); exact yF; dsimp only [ZB, z0, z1]) | refine WL.nil ?_ | refine WD.nil ?_ | refine ZA fun Kx hK => ?_ | (refine hK _ _ ?_; clear hK) | (refine Kont.skip ?_; clear hK) | refine WC.region ?_ | (apply WC.draw; kernel_rfl; kernel_rfl) | ((first | apply ZJ | apply WD.op); (focus (first | exact wN | (apply SYG.yes; (exact wY); ((first | (apply SY.call (hvx) Tryz.call100; (exact aD)) | (exact ZH (OpD.t rfl)) | (refine ZM ZAz (OpD.t rfl) (by decide)) | (apply ZI; (first | exact ZAl | exact ZBi); exact OpD.t rfl; exact mAt 3 rfl; rfl) | (exact Zr elI (OpD.t rfl) (mAt 7 rfl) (OpD.t rfl) hqi hqt) | (exact Zh tyI (OpD.t rfl) (mAt 7 rfl) hqt hx) | (exact ZBc hse (OpD.t rfl) (mAt 2 rfl) (OpD.t rfl) hx6) | ((first | apply SY.move | apply SY.assign | apply SY.lss | apply SY.geq | apply SY.eql | apply SY.not) <;> (exact oD)) | ((first | apply SY.add | apply SY.sub) <;> first | exact oD | omega) | (apply Z7; (exact oD); (with_reducible rfl); (exact oD)) | fail); all_goals infer_instance)))); dsimp only [ZB, z0, z1]) | ((first | refine ZZ rfl rfl rfl (fun h => ?_) (fun h => ?_) | refine ZY rfl rfl rfl (fun h => ?_) (fun h => ?_) | refine ZV rfl rfl rfl (fun h => ?_) (fun h => ?_) | refine ZBL rfl rfl rfl (fun h => ?_) (fun h => ?_) | refine ZBK rfl rfl rfl (fun h => ?_) (fun h => ?_) | refine ZA3 rfl rfl rfl (fun h => ?_) (fun h => ?_)) <;> (first | (exfalso; first | omega | contradiction) | (dsimp only [z0, z1]))) | (apply Zj; (exact oD); (with_reducible rfl)) | (apply ZC; (exact oD); all_goals (intro h; try exact xD)) | refine WC.skip ?_ | refine WC.exit ?_ | refine WC.block ?_ | refine ThenD.n ?_)); all_goals (first | ((repeat clear hK); (repeat clear Kx))))
    all_goals try (exfalso; first | contradiction | omega)
    (refine ⟨(q, st), ?_, by first | omega | (simp only; omega), rfl, ?_⟩; rotate_left; ((try dsimp only [ZX, z0, z1]); repeat (first | exact LeF.nil | refine ZG (k := ?_))); (try dsimp only))
    exact ⟨by omega, hdr⟩
   | true =>
    by_cases hlv : s.lev x.natAbs = 0
    ·have hl0 : ((s.lev x.natAbs : Nat) : Int) = 0 := by omega
     have e : Zw s st x = st := by unfold Zw; rw [if_pos (.inr hlv)]
     rw [e] at hdr
     ((repeat' (first | ((first | apply WL.opN | apply WD.opN); exact yF; dsimp only [ZB, z0, z1]) | refine WL.nil ?_ | refine WD.nil ?_ | refine ZA fun Kx hK => ?_ | (refine hK _ _ ?_; clear hK) | (refine Kont.skip ?_; clear hK) | refine WC.region ?_ | (apply WC.draw; kernel_rfl; kernel_rfl) | ((first | apply ZJ | apply WD.op); (focus (first | exact wN | (apply SYG.yes; (exact wY); ((first | (apply SY.call (hvx) Tryz.call100; (exact aD)) | (exact ZH (OpD.t rfl)) | (refine ZM ZAz (OpD.t rfl) (by decide)) | (apply ZI; (first | exact ZAl | exact ZBi); exact OpD.t rfl; exact mAt 3 rfl; rfl) | (exact Zr elI (OpD.t rfl) (mAt 7 rfl) (OpD.t rfl) hqi hqt) | (exact Zh tyI (OpD.t rfl) (mAt 7 rfl) hqt hx) | (exact ZBc hse (OpD.t rfl) (mAt 2 rfl) (OpD.t rfl) hx6) | (exact ZDh (OpD.t rfl) (mAt 5 rfl) (OpD.t rfl) hx6) | ((first | apply SY.move | apply SY.assign | apply SY.lss | apply SY.geq | apply SY.eql | apply SY.not) <;> (exact oD)) | ((first | apply SY.add | apply SY.sub) <;> first | exact oD | omega) | (apply Zp; (exact oD); (with_reducible rfl); (exact oD)) | fail); all_goals infer_instance)))); dsimp only [ZB, z0, z1]) | ((first | refine ZZ rfl rfl rfl (fun h => ?_) (fun h => ?_) | refine ZY rfl rfl rfl (fun h => ?_) (fun h => ?_) | refine ZV rfl rfl rfl (fun h => ?_) (fun h => ?_) | refine ZBL rfl rfl rfl (fun h => ?_) (fun h => ?_) | refine ZBK rfl rfl rfl (fun h => ?_) (fun h => ?_) | refine ZA3 rfl rfl rfl (fun h => ?_) (fun h => ?_)) <;> (first | (exfalso; first | omega | contradiction) | (dsimp only [z0, z1]))) | (apply ZC; (exact oD); all_goals (intro h; try exact xD)) | refine WC.skip ?_ | refine WC.exit ?_ | refine WC.block ?_ | refine ThenD.n ?_)); all_goals (first | ((repeat clear hK); (repeat clear Kx))))
     all_goals try (exfalso; first | contradiction | omega)
     (refine ⟨(q, st), ?_, by first | omega | (simp only; omega), rfl, ?_⟩; rotate_left; ((try dsimp only [ZX, z0, z1]); repeat (first | exact LeF.nil | refine ZG (k := ?_))); (try dsimp only))
     exact ⟨by omega, hdr⟩
    ·have hl0 : ¬ ((s.lev x.natAbs : Nat) : Int) = 0 := by omega
     have hng : ¬ (st.1 x.natAbs = false \/ s.lev x.natAbs = 0) := fun h => h.elim (fun h => by rw [hse] at h; cases h) hlv
     cases hr : s.rea x.natAbs with
     | none =>
      have e : Zw s st x = (st.1, up st.2 x true) := by unfold Zw; rw [if_neg hng, hr]
      rw [e] at hdr
      have hre : (s.rea x.natAbs).isSome = false := by rw [hr]; rfl
      ((repeat' (first | ((first | apply WL.opN | apply WD.opN); exact yF; dsimp only [ZB, z0, z1]) | refine WL.nil ?_ | refine WD.nil ?_ | refine ZA fun Kx hK => ?_ | (refine hK _ _ ?_; clear hK) | refine WC.region ?_ | (apply WC.draw; kernel_rfl; kernel_rfl) |  (refine ZK (SW.at 1 rfl fun q => ZA6 (ZEw (up st.2 x true)) ZCk ZAP (OpD.t rfl) (OpD.t rfl) isI OpD.b isB hx7 ZGB) fun _ => ?_; dsimp only [ZB, z0, z1]) | ((first | apply ZJ | apply WD.op); (focus (first | exact wN | (apply SYG.yes; (exact wY); ((first | (apply SY.call (hvx) Tryz.call100; (exact aD)) | (exact ZH (OpD.t rfl)) | (refine ZM ZAz (OpD.t rfl) (by decide)) | (apply ZI; (first | exact ZAl | exact ZBi); exact OpD.t rfl; exact mAt 3 rfl; rfl) | (apply Z1 tyF; exact OpD.t rfl; exact mAt 0 rfl) | (exact Zr elI (OpD.t rfl) (mAt 7 rfl) (OpD.t rfl) hqi hqt) | (exact Zh tyI (OpD.t rfl) (mAt 7 rfl) hqt hx) | (exact ZBc hse (OpD.t rfl) (mAt 2 rfl) (OpD.t rfl) hx6) | (exact ZDh (OpD.t rfl) (mAt 5 rfl) (OpD.t rfl) hx6) | (exact ZJm hre (by rw [hr]; rfl : (s.rea x.natAbs).getD 0 = 0) (OpD.t rfl) (mAt 6 rfl) (OpD.t rfl) hx6) | ((first | apply SY.move | apply SY.assign | apply SY.lss | apply SY.geq | apply SY.eql | apply SY.not) <;> (exact oD)) | ((first | apply SY.add | apply SY.sub) <;> first | exact oD | omega) | (apply Zp; (exact oD); (with_reducible rfl); (exact oD)) | (apply SY.extract; (exact oD); rfl) | fail); all_goals infer_instance)))); dsimp only [ZB, z0, z1]) | ((first | refine ZZ rfl rfl rfl (fun h => ?_) (fun h => ?_) | refine ZY rfl rfl rfl (fun h => ?_) (fun h => ?_) | refine ZV rfl rfl rfl (fun h => ?_) (fun h => ?_) | refine ZBL rfl rfl rfl (fun h => ?_) (fun h => ?_) | refine ZBK rfl rfl rfl (fun h => ?_) (fun h => ?_) | refine ZA3 rfl rfl rfl (fun h => ?_) (fun h => ?_)) <;> (first | (exfalso; first | omega | contradiction) | (dsimp only [z0, z1]))) | (apply Zg; (exact oD); (with_reducible rfl)) | (apply ZC; (exact oD); all_goals (intro h; try exact xD)) | refine WC.skip ?_ | refine WC.block ?_ | refine ThenD.n ?_)); all_goals (first | ((repeat clear hK); (repeat clear Kx))))
      all_goals try (exfalso; first | contradiction | omega)
      (refine ⟨(q, (st.1, up st.2 x true)), ?_, by first | omega | (simp only; omega), rfl, ?_⟩; rotate_left; ((try dsimp only [ZX, z0, z1]); repeat (first | exact LeF.nil | refine ZG (k := ?_))); (try dsimp only))
      exact ⟨by omega, hdr⟩
     | some r =>
      obtain ⟨c, hck, _, _⟩ := hI.rea q x hxe r hr
      have e : Zw s st x = (ZHg st.1 c, st.2) := by
       unfold Zw
       rw [if_neg hng, hr]
       have hg : s.list.getD r [] = c := by rw [List.getD_eq_getElem?_getD, hck, Option.getD_some]
       show ((s.list.getD r []).foldl _ st.1, st.2) = _
       rw [hg]; rfl
      rw [e] at hdr
      have hre : (s.rea x.natAbs).isSome = true := by rw [hr]; rfl
      have hrg : (s.rea x.natAbs).getD 0 = r := by rw [hr]; rfl
      have hkl : r < s.list.length := (List.getElem?_eq_some_iff.1 hck).1
      have hkr : r ∈ List.range s.list.length := List.mem_range.2 hkl
      have hkN : r < ((List.range s.list.length).map X.u).length := by simpa using hkl
      have hku : ((List.range s.list.length).map X.u)[r] = X.u r := by simp
      have hckd : s.list.getD r [] = c := by rw [List.getD_eq_getElem?_getD, hck]; rfl
      have hcr := hI.rng c (List.mem_of_getElem? hck)
      have hcl : c.length ≤ V := S43.trail_len hcr (hI.dis c (List.mem_of_getElem? hck))
      (repeat' (first | ((first | apply WL.opN | apply WD.opN); exact yF; dsimp only [ZB, z0, z1]) | refine WL.nil ?_ | refine WD.nil ?_ | refine ZA fun Kx hK => ?_ | (refine hK _ _ ?_; clear hK) | refine WC.region ?_ | (apply WC.draw; kernel_rfl; kernel_rfl) | ((first | apply ZJ | apply WD.op); (focus (first | exact wN | (apply SYG.yes; (exact wY); ((first | (apply SY.call (hvx) Tryz.call100; (exact aD)) | (exact ZH (OpD.t rfl)) | (refine ZM ZAz (OpD.t rfl) (by decide)) | (apply ZI; (first | exact ZAl | exact ZBi | exact ZCz); exact OpD.t rfl; exact mAt 3 rfl; rfl) | (exact Zr elI (OpD.t rfl) (mAt 7 rfl) (OpD.t rfl) hqi hqt) | (exact Zh tyI (OpD.t rfl) (mAt 7 rfl) hqt hx) | (exact ZBc hse (OpD.t rfl) (mAt 2 rfl) (OpD.t rfl) hx6) | (exact ZDh (OpD.t rfl) (mAt 5 rfl) (OpD.t rfl) hx6) | (exact ZJm hre hrg (OpD.t rfl) (mAt 6 rfl) (OpD.t rfl) hx6) | (exact Zr ZB7 (OpD.t rfl) (mAt 10 rfl) (OpD.t rfl) rfl hkN) | (exact ZDM ZAl (OpD.t rfl) (mAt 10 rfl) hkN hku) | (exact ZAu rfl (OpD.t rfl) (ZEu [_, _, _, _, _, _, _, _, _, _, _] hkr hckd) elI.unt) | ((first | apply SY.move | apply SY.assign | apply SY.lss | apply SY.geq | apply SY.eql | apply SY.not) <;> (exact oD)) | (apply Zp; (exact oD); (with_reducible rfl); (exact oD)) | (apply SY.extract; (exact oD); rfl) | fail); all_goals infer_instance)))); dsimp only [ZB, z0, z1]) | ((first | refine ZZ rfl rfl rfl (fun h => ?_) (fun h => ?_) | refine ZY rfl rfl rfl (fun h => ?_) (fun h => ?_) | refine ZV rfl rfl rfl (fun h => ?_) (fun h => ?_) | refine ZBL rfl rfl rfl (fun h => ?_) (fun h => ?_) | refine ZBK rfl rfl rfl (fun h => ?_) (fun h => ?_) | refine ZA3 rfl rfl rfl (fun h => ?_) (fun h => ?_)) <;> (first | (exfalso; first | omega | contradiction) | (dsimp only [z0, z1]))) | (apply Zj; (exact oD); (with_reducible rfl)) | (apply ZC; (exact oD); all_goals (intro h; try exact xD)) | refine WC.skip ?_ | refine WC.block ?_))
      all_goals try (exfalso; first | contradiction | omega)
      (refine ZP (X := Nat) (fun j => [(73, dI (j : Int)), (14, dA), (74, dA), (75, dA), (76, dA), (77, dA), (78, dA), (79, dA), (80, dA)]) (fun j => (blO X V s b7 bg bm (ZHg st.1 (c.take j), st.2) hp)) (fun j => c.length - j) (fun j => j ≤ c.length) 0 ?start ?frame0 ?objs0 ?round)
      case start => exact Nat.zero_le _
      case frame0 => ((try dsimp only [ZX, z0, z1]); repeat (first | exact LeF.nil | refine ZG (k := ?_)))
      case objs0 => rfl
      case round =>
       rintro j hj
       dsimp only [ZX, z0, z1]
       by_cases hjl : j < c.length
       ·have hle : (j : Int) < (c.length : Int) := by omega
        have hzr := hcr _ (List.getElem_mem hjl)
        have hvz := ZAa c[j] (by omega)
        have hz6 : ZAF (((c[j]).natAbs : Nat) : Int) := by unfold ZAF; omega
        have emk := ZKe (f := st.1) hjl
        ((repeat' (first | ((first | apply WL.opN | apply WD.opN); exact yF; dsimp only [ZB, z0, z1]) | refine WL.nil ?_ | refine ZA fun Kx hK => ?_ | (refine hK _ _ ?_; clear hK) | refine WC.region ?_ |  (refine ZK (SW.at 2 rfl fun q => ZA6 (ZDq (up (ZHg st.1 (c.take j)) (c[j]).natAbs true)) ZCk ZAP (OpD.t rfl) (OpD.t rfl) isI OpD.b isB hz6 ZGA) fun _ => ?_; dsimp only [ZB, z0, z1]) | ((first | apply ZJ | apply WD.op); (focus (first | exact wN | (apply SYG.yes; (exact wY); ((first | (apply SY.call (hvz) Tryz.call100; (exact aD)) | (exact Zr elI (OpD.t rfl) (ZEu [_, _, _, _, _, _, _, _, _, _, _] hkr hckd) (OpD.t rfl) rfl hjl) | (exact Zh tyI (OpD.t rfl) (ZEu [_, _, _, _, _, _, _, _, _, _, _] hkr hckd) hjl rfl) | ((first | apply SY.move | apply SY.assign | apply SY.lss | apply SY.geq | apply SY.eql | apply SY.not) <;> (exact oD)) | ((first | apply SY.add | apply SY.sub) <;> first | exact oD | omega) | fail); all_goals infer_instance)))); dsimp only [ZB, z0, z1]) | (apply ZC; (exact oD); all_goals (intro h; try exact xD)) | refine WC.skip ?_ | refine WC.block ?_ | refine ThenD.n ?_)); all_goals (first | ((repeat clear hK); (repeat clear Kx))))
        all_goals try (exfalso; first | contradiction | omega)
        rw [<- emk]
        (refine ⟨j + 1, ?_, by first | omega | (simp only; omega), rfl, ?_⟩; rotate_left; ((try dsimp only [ZX, z0, z1]); repeat (first | exact LeF.nil | refine ZG (k := ?_))); (try dsimp only))
        omega
       ·obtain rfl : j = c.length := by omega
        have hle : ¬ (c.length : Int) < (c.length : Int) := by omega
        rw [List.take_length]
        ((repeat' (first | ((first | apply WL.opN | apply WD.opN); exact yF; dsimp only [ZB, z0, z1]) | refine WL.nil ?_ | refine ZA fun Kx hK => ?_ | (refine hK _ _ ?_; clear hK) | (refine Kont.skip ?_; clear hK) | refine WC.region ?_ | ((first | apply ZJ | apply WD.op); (focus (first | exact wN | (apply SYG.yes; (exact wY); ((first | ((first | apply SY.move | apply SY.assign | apply SY.lss | apply SY.geq | apply SY.eql | apply SY.not) <;> (exact oD)) | ((first | apply SY.add | apply SY.sub) <;> first | exact oD | omega) | fail); all_goals infer_instance)))); dsimp only [ZB, z0, z1]) | (apply ZC; (exact oD); all_goals (intro h; try exact xD)) | refine WC.exit ?_ | refine ThenD.n ?_)); all_goals (first | ((repeat clear hK); (repeat clear Kx))))
        all_goals try (exfalso; first | contradiction | omega)
        (refine ⟨(q, (ZHg st.1 c, st.2)), ?_, by first | omega | (simp only; omega), rfl, ?_⟩; rotate_left; ((try dsimp only [ZX, z0, z1]); repeat (first | exact LeF.nil | refine ZG (k := ?_))); (try dsimp only))
        exact ⟨by omega, hdr⟩
theorem ZM8 (X : Lay) (V : Nat) (s : SS) (am : List Int) (l : Int) (hV : V ≤ 100000) (hI : Inv V s s.watch fun _ => False) (hs : s.list.length ≤ 1000000000000) (hl : l.natAbs ≤ V) (ha : ∀ x ∈ am, x.natAbs ≤ V) (hal : am.length ≤ 1000000) :
  CallC Tryz.prog 76 ([dX (ZDZ X), dS ZW am, dI l] ++ ([] : List Value).map dX) (ZCR X V s) (fun d hp2 => ∃ v, d = dX v /\ hp2 = ZS v tI RI (ZBR s am l) :: ZCR X V s) := by
 refine ZEV (ZM9 X V s am l hV hI hs hl ha hal) fun d hp2 ⟨v, b7, bg, bm, st, h1, h2⟩ => ?_
 subst h2
 refine ⟨[ZAB b7 101 1 false (dX (.map (some bg))), hG bg kvI ZAF vvB (ZEw st.2), hG bm kvI ZAF vvB (ZDq st.1)], ZS v tI RI (ZBR s am l) :: ZCR X V s, ?_, v, h1, rfl⟩
 unfold ZCR
 simp only [core, blO, List.cons_append, List.nil_append, List.append_nil]
 exact ZLe
end
end Go.Proofs.YtjmignmnlpamjaaGreat
