/- Part 45: walks by contracts, and plain laws. -/
import Derived.Deep.SlicePairs
import Derived.Lib.SmallJoins
import Derived.Test.YtmcllakdbgnfiaaGreatDoorRows
import Derived.Test.YtmcllakdbgnfiaaGreatDoorVg44
set_option linter.unusedVariables false
set_option linter.unusedSimpArgs false
set_option linter.unusedSectionVars false
set_option maxRecDepth 100000
set_option maxHeartbeats 4000000
namespace Go.Proofs.YtmcllakdbgnfiaaGreatDoor
section
open Go.RowKit
section
variable {P : Program} {ops : Array Oper} {hp : List HObj} {fr : List Dat} {d : Dat} {dst : Option Tmp} {ty : TypeId} {ps : String} {af : Array Edge} {g : Option (Nat × Bool)}
theorem SY.binU {op : BinOp} {x y : Operand} {T T2 : TypeId} {p q : Int} {r : Value} (hx : OpD fr x (dX (.int .u8 p))) (hy : OpD fr y (dX (.int .u8 q))) (hr : ∀ w, (Go.binOp op T (.int .u8 p) (.int .u8 q)).run P w = .ok r w) (hd : ∀ (I : Nat -> Prop) (w : World), d.rd I w r) : SY P ops hp { dst := dst, op := .binOp op T x y T2, type := ty, pos := ps, after := af, guard := g } fr d :=
 SY.val fun {I w a} ho => by
  have h1 : a.eval x = .int .u8 p := hx.get (by simp [Op.operands]) ho
  have h2 : a.eval y = .int .u8 q := hy.get (by simp [Op.operands]) ho
  refine ⟨r, ?_, hd _ _⟩
  unfold execOp
  have hg : (eqGuard op T x y (.int .u8 p) (.int .u8 q)).run P w = .ok () w := by unfold eqGuard; split <;> simp
  simp only [h1, h2, Sem.run_bind, hg, hr, Result.andThen_ok, Sem.run_pure]
end
theorem rem_u8 : ∀ k : Fin 256, ∀ (T : TypeId) (w : World), (Go.binOp .rem T (.int .u8 (k.val : Int)) (.int .u8 3)).run Tryz.prog w = .ok (.int .u8 ((k.val % 3 : Nat) : Int)) w := by
 intro k T w
 have h1 : k.val < 256 := k.isLt
 have h3 : Int.tmod (k.val : Int) 3 = (k.val : Int) % 3 := Int.tmod_eq_emod_of_nonneg (by omega)
 simp [Go.binOp, Op.intDiv]
 exact h3
theorem ne_u8 (T : TypeId) (w : World) : (Go.binOp .neq T (.int .u8 0) (.int .u8 0)).run Tryz.prog w = .ok (.bool false) w := by simp [Go.binOp, Op.intCmp]

theorem rep1_p (p q : Vx) : Fn Tryz.prog 21 ([dS RV q] ++ [dP 2 true (dS RV p)]) (dB (decide (q.1 = p.1))) := by
 show Fn Tryz.prog 21 [dS RV q, dP 2 true (dS RV p)] _
 (refine ZE Tryz.func21 rfl rfl ?_; simp only [Tryz.ntmps21, List.length_cons, List.length_nil, Nat.reduceAdd, Nat.reduceSub, List.replicate_succ, List.replicate_zero, List.cons_append, List.nil_append])
 ((repeat' (first | (apply WL.opN; exact yF; dsimp only [ZB, z0, z1]) | refine WL.nil ?_ | refine ZA fun Kx hK => ?_ | (refine hK _ _ ?_; clear hK) | refine WC.region ?_ | (apply WL.opN; (focus ((first | ((first | apply SY.assign | apply SY.eql) <;> (exact oD)) | (first | (apply SY.fld0 vxT <;> (exact oD)) | (apply SY.fld1 vxT <;> (exact oD)) | (apply SY.eqlV vxT <;> (exact oD))) | (apply SY.box; (exact oD); (exact hD)) | fail); all_goals infer_instance)); dsimp only [ZB, z0, z1]) | refine WC.ret ?_)); all_goals (first | ((repeat clear hK); (repeat clear Kx))))
 (refine ⟨trivial, _, rfl, ?_⟩; exact fD)
theorem eul_nil : eulC [] = (0, 0) := by decide
theorem two_plain {l : Cx} (h0 : ZAn l = 0) (h3 : ∀ s ∈ l, s.length <= 3) (h1 : l.length <= 1) (hw : whlE l = 0) :
  (∃ x, eulC l = (x, 0) /\ eulC (itR l 2).1 = (x, 0)) /\ chk29 (okP l (itR l 2).2.1 (itR l 2).2.2) l (itR l 2).1 (itR l 2).2.1 (itR l 2).2.2 = 0 /\ ColI (itR l 2) /\ (itR l 2).2.2.length = (itR l 2).2.1.length /\ (itR l 2).2.1.length <= 100 /\ (itR l 2).1.flatten.length <= 1000 := by
 obtain ⟨t, t1, t2, ⟨o0, z0⟩, ⟨o1, y1, z1⟩, o2, y2, z2⟩ := its_one h0 h3 h1 hw
 have hfl := flat_le (n := 3) o2.three
 have hfw := o2.few
 have hcol : ColI (itR l 2) := col_next o1 (col_next o0 (col_zero l))
 match l, h1 with
 | [], _ =>
  have hn : (itR [] 2).1 = [] := it_nil 2
  have hp : (itR [] 2).2.1 = [] := by rw [o2.pts, hn]; rfl
  have hc : (itR [] 2).2.2 = [] := List.length_eq_zero_iff.1 (by rw [o2.len, hp]; rfl)
  refine ⟨⟨0, eul_nil, by rw [hn]; exact eul_nil⟩, it_check h0 o2 (fun c hc' => by rw [hc] at hc'; cases hc') (fun f hf => by rw [hn] at hf; cases hf), hcol, o2.len, by rw [hp]; simp, by omega⟩
 | [s], _ =>
  have hs := (Zg.1 h0).2.2.1 s (by simp)
  have hd := (whl_facts hw).1 s (by simp)
  have hst : s = t := t2 s (by simp)
  obtain ⟨e1, e2, e3, e4, e5⟩ := two_facts hs hd (h3 s (by simp))
  have ex : (itR [s] 2).1 = cxW (cxW [s]) := by
   show (nextR (itR [s] 1)).1 = _
   rw [next_cx o1]
   show cxW (nextR (itR [s] 0)).1 = _
   rw [next_cx o0]
   rfl
  refine ⟨⟨1, ?_, ?_⟩, it_check h0 o2 (fun c hc => has_in (t := s) (by simp) fun x hx => by rw [hst]; exact z2 c hc x hx) (fun f hf => has_in (t := s) (by simp) fun x hx => ?_), hcol, o2.len, ?_, by omega⟩
  ·rw [eul29_is h0 e5, e2]
  ·have h6 := Zg.2 o2.good
   rw [ex] at h6 ⊢
   rw [eul29_is h6 e3, e1]
  ·obtain ⟨k, hk, hk', _, h2⟩ := ZB6.1 hx
   rw [hst]
   exact z2 _ (List.getElem_mem hk') x h2
  ·rw [o2.pts, ex]; exact e4
set_option maxHeartbeats 16000000 in
theorem repeats29_p (l : Cx) (k : Int) (hk : 0 <= k /\ k <= 255) : Fn Tryz.prog 4 [dS CpxL l, dX (.int .u8 k)] (dB true) := by
 have ca := awake29_p
 have c0 := chk27_c l
 have c1 := light_c l 2
 have c3 := light_c l 1
 by_cases h0 : ZAn l = 0
 ·rw [h0] at c0
  by_cases hb : decide ((l.length : Int) <= 2) && decide (dimC l <= 2)
  ·have hl : l.length <= 2 := by have := of_decide_eq_true (Bool.and_eq_true_iff.1 hb).1; omega
   have hd : dimC l <= 2 := of_decide_eq_true (Bool.and_eq_true_iff.1 hb).2
   have h3 := light_three hd
   rw [hb] at c1
   have d1 := chromaticP_p l
   have g1 := iter_prog l 1 h0 (by omega) h3 (by omega) (by omega)
   have i0 : Fn Tryz.prog 14 [dS CpxL l, dI 0] (dT [dS SubR (itR l 0), dI 0]) := (iter_prog l 0 h0 (by omega) h3 (by omega) (by omega)).1 (.inl rfl)
   have o0 : OkI 4 (itR l 0) := okI_zero h0 h3 (by omega)
   by_cases hw : whlE l = 0
   ·have i1 : Fn Tryz.prog 14 [dS CpxL l, dI 1] (dT [dS SubR (itR l 1), dI 0]) := g1.1 (.inr hw)
    clear g1
    obtain ⟨s1, s2⟩ := one_same o0 hw
    rw [<- s1, s2] at d1
    have e1 := same29_c (itR l 1).1 (itR l 1).2.1 (itR l 1).2.2
    have e2 := sameC_c l l
    have hch : chk29 (okP l (itR l 0).2.1 (itR l 0).2.2) l (itR l 0).1 (itR l 0).2.1 (itR l 0).2.2 = 0 := it_check h0 o0 (fun c hc => by
     obtain ⟨v, hv, rfl⟩ := List.mem_map.1 hc
     obtain ⟨s, hs, h2⟩ := ZAI.1 hv
     exact has_in hs fun x hx => by rw [List.mem_singleton.1 hx]; exact h2) (fun f hf => has_in hf fun x hx => one_len (fun v hv => ZAI.2 ⟨f, hf, hv⟩) x hx)
    have hp0 := okI_pts o0
    have e3 := chk29_p l (itR l 0).1 (itR l 0).2.1 (itR l 0).2.2 (by show l.length <= 100; omega) (by rw [o0.len]; omega)
    rw [hch] at e3
    have hz : (itR l 0).1 = l := rfl
    by_cases hk3 : k.toNat % 3 = 0
    ·by_cases h1 : l.length <= 1
     ·rw [decide_eq_true (show (l.length : Int) <= 1 by omega), decide_eq_true hd] at c3
      have i2 : Fn Tryz.prog 14 [dS CpxL l, dI 2] (dT [dS SubR (itR l 2), dI 0]) := (iter_prog l 2 h0 (by omega) h3 (by omega) (fun _ => h1)).1 (.inr hw)
      obtain ⟨⟨x, x1, x2⟩, hc2, hcol, hln, hv2, hf2⟩ := two_plain h0 h3 h1 hw
      have e4 := euler27_p l
      have e5 := euler27_p (itR l 2).1
      rw [x1] at e4
      rw [x2] at e5
      have e6 := chk29_f l (itR l 2).1 (itR l 2).2.1 (itR l 2).2.2 (fun _ => hf2) (by omega)
      rw [hc2] at e6
      have hrem := rem_u8 ⟨k.toNat, by omega⟩
      simp only [hk3, show ((k.toNat : Nat) : Int) = k by omega] at hrem
      have hcl : ∀ (j : Nat) (h : j < (itR l 2).2.1.length) (h' : j < (itR l 2).2.2.length), ((itR l 2).2.2[j].any fun q => decide (q.1 = (itR l 2).2.1[j].1)) = true := fun j h h' => by
       obtain ⟨q, q1, q2⟩ := hcol j h h'
       exact List.any_eq_true.2 ⟨q, q1, decide_eq_true q2⟩
      clear hcol hc2 x1 x2 s1 s2 hch o0
      generalize itR l 2 = D2 at *
      generalize itR l 1 = D1 at *
      generalize itR l 0 = D0 at *
      obtain ⟨F2, V2, C2⟩ := D2
      obtain ⟨F1, V1, C1⟩ := D1
      obtain ⟨F0, V0, C0⟩ := D0
      simp only at *
      subst hz
      (refine ZE Tryz.func4 rfl rfl ?_; simp only [Tryz.ntmps4, List.length_cons, List.length_nil, Nat.reduceAdd, Nat.reduceSub, List.replicate_succ, List.replicate_zero, List.cons_append, List.nil_append])
      (repeat' (first | (apply WL.opN; exact yF; dsimp only [ZB, z0, z1]) | refine WL.nil ?_ | refine ZA fun Kx hK => ?_ | (refine hK _ _ ?_; clear hK) | refine WC.region ?_ |  (refine WL.alloc tzSb (ZAS rfl rfl rfl) fun bq => ?_; dsimp only [ZB, z0, z1]) |  (refine WL.storeF ZB8 rfl (OpD.t rfl) Z9 ?_; dsimp only [ZB, z0, z1]) | (apply ZJ; (focus (first | exact wN | (apply ZG; (exact wY); ((first | (exact SY.box (OpD.t rfl) (fun I w v h => ZAl I w v (ZAT I w v h))) | (apply SY.load; exact tyC; exact OpD.t rfl) | (apply SY.load; exact ZB8; exact OpD.t rfl) | (apply SY.call c0 Tryz.call16; exact ArgsD.cons (OpD.tle rfl ZAT) ArgsD.nil) | (apply SY.call c1 Tryz.call6; exact ArgsD.cons (OpD.tle rfl ZAT) (ArgsD.cons OpD.i ArgsD.nil)) | (apply SY.call c3 Tryz.call6; exact ArgsD.cons (OpD.tle rfl ZAT) (ArgsD.cons OpD.i ArgsD.nil)) | (apply SY.call (d1) Tryz.call9; (exact aD)) | (apply SY.call i1 Tryz.call14; exact ArgsD.cons (OpD.t rfl) (ArgsD.cons OpD.i ArgsD.nil)) | (apply SY.call i0 Tryz.call14; exact ArgsD.cons (OpD.t rfl) (ArgsD.cons OpD.i ArgsD.nil)) | (apply SY.call i2 Tryz.call14; exact ArgsD.cons (OpD.t rfl) (ArgsD.cons OpD.i ArgsD.nil)) | (apply SY.call (e1) Tryz.call11; exact ArgsD.cons (OpD.t rfl) (ArgsD.cons (OpD.t rfl) (ArgsD.nil))) | (exact ZBU ZBY (OpD.t rfl) ZBz rfl rfl) | (exact ZAz tyC (OpD.t rfl)) | (apply SY.call e2 Tryz.call17; exact ArgsD.cons (OpD.t rfl) (ArgsD.cons (OpD.tle rfl ZAT) ArgsD.nil)) | (apply SY.call e3 Tryz.call18; exact ArgsD.cons (OpD.tle rfl ZAT) (ArgsD.cons (OpD.t rfl) ArgsD.nil)) | (apply SY.call e6 Tryz.call18; exact ArgsD.cons (OpD.tle rfl ZAT) (ArgsD.cons (OpD.t rfl) ArgsD.nil)) | (exact SY.binU (d := dX (.int .u8 0)) (OpD.t rfl) OpD.x (hrem _) (fun _ _ => rfl)) | (exact SY.binU (d := dB false) (OpD.t rfl) OpD.x (ne_u8 _) (fun _ _ => rfl)) | (apply SY.call e4 Tryz.call19; exact ArgsD.cons (OpD.tle rfl ZAT) ArgsD.nil) | (apply SY.call (e5) Tryz.call19; exact ArgsD.cons (OpD.t rfl) (ArgsD.nil)) | ((first | apply SY.move | apply SY.assign | apply SY.lss | apply SY.geq | apply SY.eql | apply SY.neq | apply SY.not) <;> (exact oD)) | ((first | apply SY.add | apply SY.rem) <;> first | exact oD | omega) | (apply SY.len; (exact oD); (exact nD); (exact uD)) | (apply Z6; (exact oD); (with_reducible rfl); (exact oD)) | (apply SY.extract; (exact oD); rfl) | fail); all_goals infer_instance)))); dsimp only [ZB, z0, z1]) | ((first | refine Zd rfl rfl rfl (fun h => ?_) (fun h => ?_) | refine Zc rfl rfl rfl (fun h => ?_) (fun h => ?_) | refine ZY rfl rfl rfl (fun h => ?_) (fun h => ?_)) <;> (first | (exfalso; first | omega | contradiction) | (dsimp only [z0, z1]))) | (apply ZH; (exact oD); all_goals (intro h; try exact xD)) | (apply Zk; (exact oD); all_goals (intro h; try exact xD)) | refine WC.skip ?_ | refine WC.block ?_))
      all_goals try (exfalso; first | contradiction | omega)
      (refine WC.loopU (X := Nat) (fun j => [(118, dI (j : Int)), (4, dA), (14, dA), (15, dA), (119, dA), (120, dA), (121, dA), (122, dA), (123, dA), (124, dA), (125, dA), (126, dA), (127, dA), (128, dA), (129, dA), (130, dA), (131, dA), (132, dA), (133, dA), (134, dA), (135, dA), (136, dA), (137, dA), (138, dA)]) (fun j => []) (fun j => V2.length - j) (fun j => j <= V2.length) 0 ?start ?frame0 ?objs0 ?round)
      case start => exact Nat.zero_le _
      case frame0 => ((try dsimp only [ZL, z0, z1]); repeat (first | exact LeF.nil | refine ZD (k := ?_)))
      case objs0 => rfl
      case round =>
       rintro j q1
       dsimp only [ZL, z0, z1]
       by_cases hj : j < V2.length
       ·have hjc : j < C2.length := by omega
        have cA := cntF_p C2[j] (fun q => decide (q.1 = V2[j].1))
        rw [hcl j hj hjc] at cA
        ((repeat' (first | (apply WL.opN; exact yF; dsimp only [ZB, z0, z1]) | refine WL.nil ?_ | refine ZA fun Kx hK => ?_ | (refine hK _ _ ?_; clear hK) | refine WC.region ?_ | (apply WL.alloc; (first | exact tzV | exact tzC); (first | exact ZW rfl | exact Zs | exact Zi rfl); (intro _; dsimp only [ZB, z0, z1])) | (apply WL.storeF; (exact tD); rfl; (exact oD); (exact hD); dsimp only [ZB, z0, z1]) | (apply ZJ; (focus (first | exact wN | (apply ZG; (exact wY); ((first | (exact ZBU ZBY (OpD.t rfl) ZBz rfl rfl) | (refine SY.ixE (R := RV) (_gR := inferInstance) elV hj rfl (OpD.t rfl) (OpD.t rfl)) | (refine ZCZ (R := ZF) (_gR := inferInstance) elSi hjc rfl (OpD.t rfl) (OpD.t rfl)) | (apply SY.load; exact tySi; exact OpD.t rfl) | (apply ZBi (A := fun v : Vx => [dS RV v]) (r := fun v => dB (decide (v.1 = V2[j].1))) Tryz.call21 (fun v => rep1_p V2[j] v) (fun _ => bare_B); (exact aD)) | (apply SY.call (cA) Tryz.call20; (exact aD)) | ((first | apply SY.move | apply SY.assign | apply SY.lss | apply SY.geq | apply SY.eql | apply SY.neq | apply SY.not) <;> (exact oD)) | ((first | apply SY.add | apply SY.rem) <;> first | exact oD | omega) | (apply SY.load; (exact tD); (exact oD)) | (apply SY.len; (exact oD); (exact nD); (exact uD)) | (apply Z6; (exact oD); (with_reducible rfl); (exact oD)) | fail); all_goals infer_instance)))); dsimp only [ZB, z0, z1]) | ((first | refine Zd rfl rfl rfl (fun h => ?_) (fun h => ?_) | refine Zc rfl rfl rfl (fun h => ?_) (fun h => ?_) | refine ZY rfl rfl rfl (fun h => ?_) (fun h => ?_)) <;> (first | (exfalso; first | omega | contradiction) | (dsimp only [z0, z1]))) | (apply ZC; (exact oD); all_goals (intro h; try exact xD)) | (apply Zk; (exact oD); all_goals (intro h; try exact xD)) | refine WC.skip ?_ | refine WC.block ?_ | refine ThenD.n ?_)); all_goals (first | ((repeat clear hK); (repeat clear Kx))))
        all_goals try (exfalso; first | contradiction | omega)
        (refine ⟨j + 1, ?_, by first | omega | (simp only; omega), rfl, ?_⟩; rotate_left; ((try dsimp only [ZL, z0, z1]); repeat (first | exact LeF.nil | refine ZD (k := ?_))); (try dsimp only))
        omega
       ·((repeat' (first | (apply WL.opN; exact yF; dsimp only [ZB, z0, z1]) | refine WL.nil ?_ | refine ZA fun Kx hK => ?_ | (refine hK _ _ ?_; clear hK) | (refine Kont.skip ?_; clear hK) | refine WC.region ?_ | (apply ZJ; (focus (first | exact wN | (apply ZG; (exact wY); ((first | (apply SY.call (ca) Tryz.call8; (exact aD)) | ((first | apply SY.move | apply SY.assign | apply SY.lss | apply SY.geq | apply SY.eql | apply SY.neq | apply SY.not) <;> (exact oD)) | fail); all_goals infer_instance)))); dsimp only [ZB, z0, z1]) | (apply ZC; (exact oD); all_goals (intro h; try exact xD)) | refine WC.ret ?_ | refine WC.exit ?_)); all_goals (first | ((repeat clear hK); (repeat clear Kx))))
        all_goals try (exfalso; first | contradiction | omega)
        (refine ⟨trivial, _, rfl, ?_⟩; exact fD)
     ·rw [decide_eq_false (show ¬ (l.length : Int) <= 1 by omega), Bool.false_and] at c3
      have hrem := rem_u8 ⟨k.toNat, by omega⟩
      simp only [hk3, show ((k.toNat : Nat) : Int) = k by omega] at hrem
      clear s1 s2 hch o0
      generalize itR l 1 = D1 at *
      generalize itR l 0 = D0 at *
      obtain ⟨F1, V1, C1⟩ := D1
      obtain ⟨F0, V0, C0⟩ := D0
      simp only at *
      subst hz
      (refine ZE Tryz.func4 rfl rfl ?_; simp only [Tryz.ntmps4, List.length_cons, List.length_nil, Nat.reduceAdd, Nat.reduceSub, List.replicate_succ, List.replicate_zero, List.cons_append, List.nil_append])
      ((repeat' (first | (apply WL.opN; exact yF; dsimp only [ZB, z0, z1]) | refine WL.nil ?_ | refine ZA fun Kx hK => ?_ | (refine hK _ _ ?_; clear hK) | refine WC.region ?_ |  (refine WL.alloc tzSb (ZAS rfl rfl rfl) fun bq => ?_; dsimp only [ZB, z0, z1]) |  (refine WL.storeF ZB8 rfl (OpD.t rfl) Z9 ?_; dsimp only [ZB, z0, z1]) | (apply ZJ; (focus (first | exact wN | (apply ZG; (exact wY); ((first | (exact SY.box (OpD.t rfl) (fun I w v h => ZAl I w v (ZAT I w v h))) | (apply SY.load; exact tyC; exact OpD.t rfl) | (apply SY.load; exact ZB8; exact OpD.t rfl) | (apply SY.call c0 Tryz.call16; exact ArgsD.cons (OpD.tle rfl ZAT) ArgsD.nil) | (apply SY.call c1 Tryz.call6; exact ArgsD.cons (OpD.tle rfl ZAT) (ArgsD.cons OpD.i ArgsD.nil)) | (apply SY.call c3 Tryz.call6; exact ArgsD.cons (OpD.tle rfl ZAT) (ArgsD.cons OpD.i ArgsD.nil)) | (apply SY.call (d1) Tryz.call9; (exact aD)) | (apply SY.call i1 Tryz.call14; exact ArgsD.cons (OpD.t rfl) (ArgsD.cons OpD.i ArgsD.nil)) | (apply SY.call i0 Tryz.call14; exact ArgsD.cons (OpD.t rfl) (ArgsD.cons OpD.i ArgsD.nil)) | (apply SY.call (e1) Tryz.call11; exact ArgsD.cons (OpD.t rfl) (ArgsD.cons (OpD.t rfl) (ArgsD.nil))) | (exact ZBU ZBY (OpD.t rfl) ZBz rfl rfl) | (exact ZAz tyC (OpD.t rfl)) | (apply SY.call e2 Tryz.call17; exact ArgsD.cons (OpD.t rfl) (ArgsD.cons (OpD.tle rfl ZAT) ArgsD.nil)) | (apply SY.call e3 Tryz.call18; exact ArgsD.cons (OpD.tle rfl ZAT) (ArgsD.cons (OpD.t rfl) ArgsD.nil)) | (exact SY.binU (d := dX (.int .u8 0)) (OpD.t rfl) OpD.x (hrem _) (fun _ _ => rfl)) | (exact SY.binU (d := dB false) (OpD.t rfl) OpD.x (ne_u8 _) (fun _ _ => rfl)) | (apply SY.call (ca) Tryz.call8; (exact aD)) | ((first | apply SY.move | apply SY.assign | apply SY.lss | apply SY.geq | apply SY.eql | apply SY.neq | apply SY.not) <;> (exact oD)) | (apply Z6; (exact oD); (with_reducible rfl); (exact oD)) | (apply SY.extract; (exact oD); rfl) | fail); all_goals infer_instance)))); dsimp only [ZB, z0, z1]) | ((first | refine Zd rfl rfl rfl (fun h => ?_) (fun h => ?_) | refine Zc rfl rfl rfl (fun h => ?_) (fun h => ?_) | refine ZY rfl rfl rfl (fun h => ?_) (fun h => ?_)) <;> (first | (exfalso; first | omega | contradiction) | (dsimp only [z0, z1]))) | (apply ZH; (exact oD); all_goals (intro h; try exact xD)) | (apply Zk; (exact oD); all_goals (intro h; try exact xD)) | refine WC.skip ?_ | refine WC.ret ?_ | refine ThenD.r ?_)); all_goals (first | ((repeat clear hK); (repeat clear Kx))))
      all_goals first | (refine ⟨trivial, _, rfl, ?_⟩; exact fD) | (exfalso; first | contradiction | omega)
    ·have hrem := rem_u8 ⟨k.toNat, by omega⟩
     simp only [show ((k.toNat : Nat) : Int) = k by omega] at hrem
     have hne : ∀ (T : TypeId) (w : World), (Go.binOp .neq T (.int .u8 ((k.toNat % 3 : Nat) : Int)) (.int .u8 0)).run Tryz.prog w = .ok (.bool true) w := fun T w => by
      have : ¬ ((k.toNat % 3 : Nat) : Int) = 0 := by omega
      simp [Go.binOp, Op.intCmp]
      omega
     clear s1 s2 hch o0
     generalize itR l 1 = D1 at *
     generalize itR l 0 = D0 at *
     generalize ((k.toNat % 3 : Nat) : Int) = k3 at *
     obtain ⟨F1, V1, C1⟩ := D1
     obtain ⟨F0, V0, C0⟩ := D0
     simp only at *
     subst hz
     (refine ZE Tryz.func4 rfl rfl ?_; simp only [Tryz.ntmps4, List.length_cons, List.length_nil, Nat.reduceAdd, Nat.reduceSub, List.replicate_succ, List.replicate_zero, List.cons_append, List.nil_append])
     ((repeat' (first | (apply WL.opN; exact yF; dsimp only [ZB, z0, z1]) | refine WL.nil ?_ | refine ZA fun Kx hK => ?_ | (refine hK _ _ ?_; clear hK) | refine WC.region ?_ |  (refine WL.alloc tzSb (ZAS rfl rfl rfl) fun bq => ?_; dsimp only [ZB, z0, z1]) |  (refine WL.storeF ZB8 rfl (OpD.t rfl) Z9 ?_; dsimp only [ZB, z0, z1]) | (apply ZJ; (focus (first | exact wN | (apply ZG; (exact wY); ((first | (exact SY.box (OpD.t rfl) (fun I w v h => ZAl I w v (ZAT I w v h))) | (apply SY.load; exact tyC; exact OpD.t rfl) | (apply SY.load; exact ZB8; exact OpD.t rfl) | (apply SY.call c0 Tryz.call16; exact ArgsD.cons (OpD.tle rfl ZAT) ArgsD.nil) | (apply SY.call c1 Tryz.call6; exact ArgsD.cons (OpD.tle rfl ZAT) (ArgsD.cons OpD.i ArgsD.nil)) | (apply SY.call (d1) Tryz.call9; (exact aD)) | (apply SY.call i1 Tryz.call14; exact ArgsD.cons (OpD.t rfl) (ArgsD.cons OpD.i ArgsD.nil)) | (apply SY.call i0 Tryz.call14; exact ArgsD.cons (OpD.t rfl) (ArgsD.cons OpD.i ArgsD.nil)) | (apply SY.call (e1) Tryz.call11; exact ArgsD.cons (OpD.t rfl) (ArgsD.cons (OpD.t rfl) (ArgsD.nil))) | (exact ZBU ZBY (OpD.t rfl) ZBz rfl rfl) | (exact ZAz tyC (OpD.t rfl)) | (apply SY.call e2 Tryz.call17; exact ArgsD.cons (OpD.t rfl) (ArgsD.cons (OpD.tle rfl ZAT) ArgsD.nil)) | (apply SY.call e3 Tryz.call18; exact ArgsD.cons (OpD.tle rfl ZAT) (ArgsD.cons (OpD.t rfl) ArgsD.nil)) | (exact SY.binU (d := dX (.int .u8 k3)) (OpD.t rfl) OpD.x (hrem _) (fun _ _ => rfl)) | (exact SY.binU (d := dB true) (OpD.t rfl) OpD.x (hne _) (fun _ _ => rfl)) | (apply SY.call (ca) Tryz.call8; (exact aD)) | ((first | apply SY.move | apply SY.assign | apply SY.lss | apply SY.geq | apply SY.eql | apply SY.neq | apply SY.not) <;> (exact oD)) | (apply ZAJ; (exact oD); (with_reducible rfl); (exact oD)) | (apply Z6; (exact oD); (with_reducible rfl); (exact oD)) | (apply SY.extract; (exact oD); rfl) | fail); all_goals infer_instance)))); dsimp only [ZB, z0, z1]) | ((first | refine Zd rfl rfl rfl (fun h => ?_) (fun h => ?_) | refine Zc rfl rfl rfl (fun h => ?_) (fun h => ?_) | refine ZY rfl rfl rfl (fun h => ?_) (fun h => ?_)) <;> (first | (exfalso; first | omega | contradiction) | (dsimp only [z0, z1]))) | (apply ZBG; (exact oD); (with_reducible rfl)) | (apply ZH; (exact oD); all_goals (intro h; try exact xD)) | (apply Zk; (exact oD); all_goals (intro h; try exact xD)) | refine WC.skip ?_ | refine WC.ret ?_ | refine ThenD.r ?_)); all_goals (first | ((repeat clear hK); (repeat clear Kx))))
     all_goals first | (refine ⟨trivial, _, rfl, ?_⟩; exact fD) | (exfalso; first | contradiction | omega)
   ·have i1 : Fn Tryz.prog 14 [dS CpxL l, dI 1] (dT [dS SubR ([], [], []), dI (whlE l)]) := g1.2 (by omega) hw
    clear g1
    have hA : chrR l = (([], [], []), whlE l) := by
     unfold chrR whlR
     rw [if_neg (by omega), if_pos hw]
    rw [hA] at d1
    have h35 : whlE l = 3 := by
     have h5 : ∀ s ∈ l, s.length <= 3 := h3
     have hs := sumU13 h3
     unfold whlE at hw ⊢
     by_cases q : l.all Zy = false
     ·rw [if_pos q]
     ·rw [if_neg q, if_neg (by rw [List.any_eq_false.2 fun s hs => by have := h5 s hs; simp; omega]; decide), if_neg (by omega)] at hw
      exact absurd rfl hw
    rw [h35] at d1 i1
    have e1 := same29_c [] [] []
    have e2 := sameC_c l l
    have hch : chk29 (okP l (itR l 0).2.1 (itR l 0).2.2) l (itR l 0).1 (itR l 0).2.1 (itR l 0).2.2 = 0 := it_check h0 o0 (fun c hc => by
     obtain ⟨v, hv, rfl⟩ := List.mem_map.1 hc
     obtain ⟨s, hs, h2⟩ := ZAI.1 hv
     exact has_in hs fun x hx => by rw [List.mem_singleton.1 hx]; exact h2) (fun f hf => has_in hf fun x hx => one_len (fun v hv => ZAI.2 ⟨f, hf, hv⟩) x hx)
    have hp0 := okI_pts o0
    have e3 := chk29_p l (itR l 0).1 (itR l 0).2.1 (itR l 0).2.2 (by show l.length <= 100; omega) (by rw [o0.len]; omega)
    rw [hch] at e3
    have hz : (itR l 0).1 = l := rfl
    clear hch o0 hA hw h35
    generalize itR l 0 = D0 at *
    obtain ⟨F0, V0, C0⟩ := D0
    simp only at *
    subst hz
    (refine ZE Tryz.func4 rfl rfl ?_; simp only [Tryz.ntmps4, List.length_cons, List.length_nil, Nat.reduceAdd, Nat.reduceSub, List.replicate_succ, List.replicate_zero, List.cons_append, List.nil_append])
    ((repeat' (first | (apply WL.opN; exact yF; dsimp only [ZB, z0, z1]) | refine WL.nil ?_ | refine ZA fun Kx hK => ?_ | (refine hK _ _ ?_; clear hK) | refine WC.region ?_ |  (refine WL.alloc tzSb (ZAS rfl rfl rfl) fun bq => ?_; dsimp only [ZB, z0, z1]) |  (refine WL.storeF ZB8 rfl (OpD.t rfl) Z9 ?_; dsimp only [ZB, z0, z1]) | (apply ZJ; (focus (first | exact wN | (apply ZG; (exact wY); ((first | (exact SY.box (OpD.t rfl) (fun I w v h => ZAl I w v (ZAT I w v h))) | (apply SY.load; exact tyC; exact OpD.t rfl) | (apply SY.load; exact ZB8; exact OpD.t rfl) | (apply SY.call c0 Tryz.call16; exact ArgsD.cons (OpD.tle rfl ZAT) ArgsD.nil) | (apply SY.call c1 Tryz.call6; exact ArgsD.cons (OpD.tle rfl ZAT) (ArgsD.cons OpD.i ArgsD.nil)) | (apply SY.call (d1) Tryz.call9; (exact aD)) | (apply SY.call i1 Tryz.call14; exact ArgsD.cons (OpD.t rfl) (ArgsD.cons OpD.i ArgsD.nil)) | (apply SY.call i0 Tryz.call14; exact ArgsD.cons (OpD.t rfl) (ArgsD.cons OpD.i ArgsD.nil)) | (apply SY.call (e1) Tryz.call11; exact ArgsD.cons (OpD.t rfl) (ArgsD.cons (OpD.t rfl) (ArgsD.nil))) | (exact ZBU ZBY (OpD.t rfl) ZBz rfl rfl) | (exact ZAz tyC (OpD.t rfl)) | (apply SY.call e2 Tryz.call17; exact ArgsD.cons (OpD.t rfl) (ArgsD.cons (OpD.tle rfl ZAT) ArgsD.nil)) | (apply SY.call e3 Tryz.call18; exact ArgsD.cons (OpD.tle rfl ZAT) (ArgsD.cons (OpD.t rfl) ArgsD.nil)) | (apply SY.call (ca) Tryz.call8; (exact aD)) | ((first | apply SY.move | apply SY.assign | apply SY.lss | apply SY.geq | apply SY.eql | apply SY.neq | apply SY.not) <;> (exact oD)) | (apply ZAJ; (exact oD); (with_reducible rfl); (exact oD)) | (apply Z6; (exact oD); (with_reducible rfl); (exact oD)) | (apply SY.extract; (exact oD); rfl) | fail); all_goals infer_instance)))); dsimp only [ZB, z0, z1]) | ((first | refine Zd rfl rfl rfl (fun h => ?_) (fun h => ?_) | refine Zc rfl rfl rfl (fun h => ?_) (fun h => ?_) | refine ZY rfl rfl rfl (fun h => ?_) (fun h => ?_)) <;> (first | (exfalso; first | omega | contradiction) | (dsimp only [z0, z1]))) | (apply ZH; (exact oD); all_goals (intro h; try exact xD)) | (apply Zk; (exact oD); all_goals (intro h; try exact xD)) | refine WC.skip ?_ | refine WC.ret ?_ | refine ThenD.r ?_)); all_goals (first | ((repeat clear hK); (repeat clear Kx))))
    all_goals first | (refine ⟨trivial, _, rfl, ?_⟩; exact fD) | (exfalso; first | contradiction | omega)
  ·rw [Bool.eq_false_iff.2 hb] at c1
   (refine ZE Tryz.func4 rfl rfl ?_; simp only [Tryz.ntmps4, List.length_cons, List.length_nil, Nat.reduceAdd, Nat.reduceSub, List.replicate_succ, List.replicate_zero, List.cons_append, List.nil_append])
   ((repeat' (first | (apply WL.opN; exact yF; dsimp only [ZB, z0, z1]) | refine WL.nil ?_ | refine ZA fun Kx hK => ?_ | (refine hK _ _ ?_; clear hK) | refine WC.region ?_ | (apply ZJ; (focus (first | exact wN | (apply ZG; (exact wY); ((first | (exact SY.box (OpD.t rfl) (fun I w v h => ZAl I w v (ZAT I w v h))) | (apply SY.load; exact tyC; exact OpD.t rfl) | (apply SY.call c0 Tryz.call16; exact ArgsD.cons (OpD.tle rfl ZAT) ArgsD.nil) | (apply SY.call c1 Tryz.call6; exact ArgsD.cons (OpD.tle rfl ZAT) (ArgsD.cons OpD.i ArgsD.nil)) | (apply SY.call (ca) Tryz.call8; (exact aD)) | ((first | apply SY.move | apply SY.assign | apply SY.lss | apply SY.geq | apply SY.eql | apply SY.neq | apply SY.not) <;> (exact oD)) | (apply Z6; (exact oD); (with_reducible rfl); (exact oD)) | fail); all_goals infer_instance)))); dsimp only [ZB, z0, z1]) | ((first | refine Zd rfl rfl rfl (fun h => ?_) (fun h => ?_) | refine Zc rfl rfl rfl (fun h => ?_) (fun h => ?_) | refine ZY rfl rfl rfl (fun h => ?_) (fun h => ?_)) <;> (first | (exfalso; first | omega | contradiction) | (dsimp only [z0, z1]))) | (apply Zk; (exact oD); all_goals (intro h; try exact xD)) | refine WC.ret ?_ | refine ThenD.r ?_)); all_goals (first | ((repeat clear hK); (repeat clear Kx))))
   all_goals first | (refine ⟨trivial, _, rfl, ?_⟩; exact fD) | (exfalso; first | contradiction | omega)
 ·(refine ZE Tryz.func4 rfl rfl ?_; simp only [Tryz.ntmps4, List.length_cons, List.length_nil, Nat.reduceAdd, Nat.reduceSub, List.replicate_succ, List.replicate_zero, List.cons_append, List.nil_append])
  ((repeat' (first | (apply WL.opN; exact yF; dsimp only [ZB, z0, z1]) | refine WL.nil ?_ | refine ZA fun Kx hK => ?_ | (refine hK _ _ ?_; clear hK) | refine WC.region ?_ | (apply ZJ; (focus (first | exact wN | (apply ZG; (exact wY); ((first | (exact SY.box (OpD.t rfl) (fun I w v h => ZAl I w v (ZAT I w v h))) | (apply SY.call c0 Tryz.call16; exact ArgsD.cons (OpD.tle rfl ZAT) ArgsD.nil) | (apply SY.call (ca) Tryz.call8; (exact aD)) | ((first | apply SY.move | apply SY.assign | apply SY.lss | apply SY.geq | apply SY.eql | apply SY.neq | apply SY.not) <;> (exact oD)) | (apply ZAJ; (exact oD); (with_reducible rfl); (exact oD)) | fail); all_goals infer_instance)))); dsimp only [ZB, z0, z1]) | ((first | refine Zd rfl rfl rfl (fun h => ?_) (fun h => ?_) | refine Zc rfl rfl rfl (fun h => ?_) (fun h => ?_) | refine ZY rfl rfl rfl (fun h => ?_) (fun h => ?_)) <;> (first | (exfalso; first | omega | contradiction) | (dsimp only [z0, z1]))) | (apply ZBG; (exact oD); (with_reducible rfl)) | refine WC.ret ?_ | refine ThenD.r ?_)); all_goals (first | ((repeat clear hK); (repeat clear Kx))))
  all_goals first | (refine ⟨trivial, _, rfl, ?_⟩; exact fD) | (exfalso; first | contradiction | omega)
end
section
open Go.ChangeShapes Go.WideShapes Go.ChangeAt Go.RowKit

theorem own : ownKnob Tryz.prog.godebug = none := by kernel_rfl
theorem laidOut : laidOutB Tryz.prog = true := by kernel_rfl
theorem cellsV : Tryz.prog.cellsOf 45 = 2 := by kernel_rfl
theorem cellsS : Tryz.prog.cellsOf 28 = 1 := by kernel_rfl
theorem cellsI : Tryz.prog.cellsOf 3 = 1 := by kernel_rfl

section
variable {H : Type} {enc : TypeId × Value -> H}
theorem open_V {w : World} {fuel : Nat} {v : Value} {x : DataW H × List MemPlace} (h : DataW.trod enc Tryz.prog w 0 (fun _ => true) true fuel 28 [v] = some x) :
  ∃ xs, ZF anyB w v xs := by
 rcases Deep.open_slice_pairs Tryz.underlying28 Tryz.underlying45 cellsV rfl rfl cellsI cellsI h with ⟨hc, _⟩ | ⟨a, len, cap, m, n, V0, V1, D0, D1, P0, P1, hc, _, hl, hm, hmm, _, hx⟩
 ·obtain rfl : v = .slice none 0 0 := by simpa using hc
  exact ⟨[], ArrK.nil' (by decide)⟩
 ·obtain rfl : v = .slice (some a) len cap := by simpa using hc
  simp only [if_true] at hmm
  subst hmm
  have hz : ∀ i, ∃ p : Int × Int, i < m -> V0 i = .int .i64 p.1 /\ V1 i = .int .i64 p.2 := fun i => by
   by_cases hi : i < m
   ·obtain ⟨_, _, h2, h3⟩ := hx i hi
    obtain ⟨p, hp, _⟩ := DataW.trod_int Tryz.underlying3 h2
    obtain ⟨q, hq, _⟩ := DataW.trod_int Tryz.underlying3 h3
    exact ⟨(p, q), fun _ => ⟨by simpa using hp, by simpa using hq⟩⟩
   ·exact ⟨(0, 0), fun h => absurd h hi⟩
  obtain ⟨z, hz⟩ := Classical.axiomOfChoice hz
  have hlen : ((List.range len).map z).length = len := by simp
  refine ⟨(List.range len).map z, some a, m, by rw [hlen], by rw [hlen]; exact hl, hm, by decide, fun k hk => ?_⟩
  rw [hlen] at hk
  obtain ⟨h0, h1, _⟩ := hx k (by omega)
  have hs := World.cell?_spot (hx 0 (by omega)).1
  obtain ⟨b, off, sp⟩ := a
  obtain rfl : sp = none := by simpa [Addr.add] using hs
  obtain ⟨e0, e1⟩ := hz k (by omega)
  refine ⟨[.int .i64 (z k).1, .int .i64 (z k).2], b, off, by simp [RV], rfl, by simp [Value.oneCell'], rfl, trivial, fun j c hc => ?_⟩
  rw [Addr.add_lit] at h0 h1
  match j, hc with
  | 0, hc => cases hc; rw [Nat.add_zero, <- e0]; exact h0
  | 1, hc => cases hc; rw [<- e1, Nat.add_assoc]; exact h1
theorem open_S {w : World} {fuel : Nat} {v : Value} {x : DataW H × List MemPlace} (h : DataW.trod enc Tryz.prog w 0 (fun _ => true) true fuel 22 [v] = some x) :
  ∃ xs, Zq anyB w v xs := by
 rcases Deep.open_slice1 Tryz.underlying22 cellsS h with ⟨hc, _⟩ | ⟨a, len, cap, m, n, V, D, Pl, hc, _, hl, hm, hmm, _, hx⟩
 ·obtain rfl : v = .slice none 0 0 := by simpa using hc
  exact ⟨[], ZCU⟩
 ·obtain rfl : v = .slice (some a) len cap := by simpa using hc
  simp only [if_true] at hmm
  subst hmm
  have hz : ∀ i, ∃ xs : List (Int × Int), i < m -> ZF anyB w (V i) xs := fun i => by
   by_cases hi : i < m
   ·obtain ⟨xs, h1⟩ := open_V (hx i hi).2
    exact ⟨xs, fun _ => h1⟩
   ·exact ⟨[], fun h => absurd h hi⟩
  obtain ⟨z, hz⟩ := Classical.axiomOfChoice hz
  have hlen : ((List.range len).map z).length = len := by simp
  refine ⟨(List.range len).map z, some a, m, by rw [hlen], by rw [hlen]; exact hl, hm, fun k hk => ?_⟩
  rw [hlen] at hk
  obtain ⟨h0, _⟩ := hx k (by omega)
  have hs := World.cell?_spot (hx 0 (by omega)).1
  obtain ⟨b, off, sp⟩ := a
  obtain rfl : sp = none := by simpa [Addr.add] using hs
  have hv := hz k (by omega)
  refine ⟨V k, b, off, by simpa using hv, ?_, rfl, trivial, by rw [Addr.add_lit] at h0; exact h0⟩
  obtain ⟨a', c', hv', _⟩ := hv
  rw [hv']; rfl
theorem open_U8' {w : World} {r : Reach} {b0 : Nat} {v : Value} {d : DataW H} {ps : List MemPlace} (hv : Value.okWide Tryz.prog w r b0 5 v) (h : DataW.Trod enc Tryz.prog w 0 (fun _ => true) true 5 v d ps) : ∃ n : Int, v = .int .u8 n /\ 0 <= n /\ n <= 255 := by
 obtain ⟨n, rfl, _, _, hw⟩ := open_int Tryz.underlying5 hv h
 exact ⟨n, rfl, by simpa [Lit.wf, IntKind.min, IntKind.max, IntKind.signed, IntKind.bits] using hw⟩
end

section
variable {H : Type} {enc : TypeId × Value -> H}

theorem args_kept {W W' : World} (hE : Ext W W') : ∀ {ts : List TypeId} {vs : List Value} {ds : List (DataW H)} {ps : List MemPlace}, (∀ t ∈ ts, Tryz.prog.readableRec t = true /\ t < Tryz.prog.types.size) -> (∀ p ∈ ps, p.block < W.heap.size) ->
  DataW.TrodAll enc Tryz.prog W 0 (fun _ => true) true ts vs ds ps -> DataW.TrodAll enc Tryz.prog W' 0 (fun b => decide (b < W.heap.size)) true ts vs ds ps
 | [], _, _, _, _, _, h => by
  obtain ⟨rfl, rfl, rfl⟩ := trodAll_nil h
  exact trodAll_mk0
 | t :: ts, _, _, _, ht, hlt, h => by
  obtain ⟨v, vs1, d, ds1, a, b, rfl, rfl, rfl, h1, h2⟩ := trodAll_cons h
  exact trodAll_cons_mk (Below.trod laidOut (ht t (by simp)).1 (ht t (by simp)).2 h1 hE (fun x hx => hlt x (by simp [hx]))) (args_kept hE (fun t' h' => ht t' (by simp [h'])) (fun p hp => hlt p (by simp [hp])) h2)

theorem post_law {f : Func} {s : ChangeSpec} {W W' : World} {args : Array Value} {ds gs : List (DataW H)} {before : List MemPlace} (hW : DataW.Whole enc Tryz.prog f.params.toList s.vars false W args.toList ds gs before) (hvars : s.vars = [])
  (hr : f.resultTypes = #[4]) (hs : s.fn H ds = { results := [.lit (.bool true)], args := ds }) (ht : ∀ t ∈ f.params.toList, Tryz.prog.readableRec t = true /\ t < Tryz.prog.types.size) (hE : Ext W W') :
  s.post enc Tryz.prog f false true false false W args (.bool true) W' := by
 have hlt := hW.lt
 have hW' := hW
 obtain ⟨p, q, hA, hV, rfl, hfz, hnd⟩ := hW
 rw [hvars] at hV
 obtain ⟨rfl, rfl⟩ := trodVars_none hV
 refine ⟨ds, [], p ++ [], [], p, [], hW', ?_, ?_, ?_, hE.frame _, fun h => by cases h⟩
 ·rw [hr, List.append_nil, hs]
  exact trodAll_mk1 (shut_bool Tryz.underlying4 true)
 ·rw [List.append_nil, hs]
  exact args_kept hE ht (fun x hx => hlt x (by simp [hx])) hA
 ·rw [hvars, List.append_nil, hs]
  rfl
theorem fn_law {f : FuncId} {ds : List Dat} (hF : Fn Tryz.prog f ds (dB true)) {W : World} {vs : List Value} (hl : vs.length = ds.length) (h : ∀ (i : Nat) (d : Dat), ds[i]? = some d -> d.rd anyB W (vs.getD i undef)) :
  Calls Tryz.prog f vs.toArray W fun e W' => e = .returned (.bool true) /\ Ext W W' :=
 (hF.out anyB W vs hl h).mono fun _ _ ⟨_, h1, h2, h3⟩ => by cases (h3 : _ = _); exact ⟨h1, h2⟩
end
end
section
open Go.ChangeShapes Go.WideShapes Go.ChangeAt Go.RowKit
section
variable {H : Type} {enc : TypeId × Value -> H}
theorem cellsC : Tryz.prog.cellsOf 24 = 1 := by kernel_rfl
theorem cellsSS : Tryz.prog.cellsOf 22 = 1 := by kernel_rfl
theorem open_C' {w : World} {r : Reach} {b0 : Nat} {v : Value} {d : DataW H} {ps : List MemPlace} (hv : Value.okWide Tryz.prog w r b0 24 v) (h : DataW.Trod enc Tryz.prog w 0 (fun _ => true) true 24 v d ps) : ∃ xs, (dS Cpx xs).rd anyB w v := by
 obtain ⟨fuel, h⟩ := h
 obtain ⟨cs, rfl, hcs⟩ := okWide_struct Tryz.underlying24 hv
 rw [cellsC] at hcs
 obtain ⟨u, rfl⟩ := Array.size_eq_one_iff.1 hcs
 obtain ⟨y0, n, hy, hl, h0⟩ := trod_struct1 Tryz.underlying24 h
 have h0' : DataW.trod enc Tryz.prog w 0 (fun _ => true) true n 22 [u] = some y0 := by
  have e : Tryz.prog.cellsOf 22 = 1 := cellsSS
  simpa [Value.cells, e] using h0
 obtain ⟨xs, hx⟩ := open_S h0'
 refine ⟨xs, u, rfl, ?_, hx⟩
 obtain ⟨a, c, hu, _⟩ := hx
 rw [hu]; rfl
end
end
end Go.Proofs.YtmcllakdbgnfiaaGreatDoor
