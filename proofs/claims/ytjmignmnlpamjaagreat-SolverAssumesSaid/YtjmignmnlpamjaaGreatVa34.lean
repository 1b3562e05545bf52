/- Part 34: walks by contracts, and plain laws. -/
import Derived.Test.YtjmignmnlpamjaaGreatVa31
import Derived.Test.YtjmignmnlpamjaaGreatVa32
import Derived.Test.YtjmignmnlpamjaaGreatVa33
set_option linter.unusedVariables false
set_option linter.unusedSimpArgs false
set_option linter.unusedSectionVars false
set_option maxRecDepth 100000
set_option maxHeartbeats 4000000
namespace Go.Proofs.YtjmignmnlpamjaaGreat
section
open Go.RowKit
open S43 (SS RS GInv up ZAG ZAx Zz ZA7 Zq Zk ZCH ZAI ZBR Conf CInv meas)
abbrev ZFb (X : Lay) (V : Nat) (s : SS) (lr : List S43.Cl) (B : List HObj) : List HObj := oS X V s :: oV X s :: oL X s :: oR X s :: oT X s :: oB X s :: oW X :: oC X s :: (ZEI X s ++ (ZEJ X V s ++ (oN X lr :: B)))
section
variable {X : Lay} {V : Nat} {s : SS} {lr : List S43.Cl} {B : List HObj} {O : HObj}
theorem ZAn : ZCR X V s ++ (oN X lr :: B) = ZFb X V s lr B := by unfold ZCR; simp only [core, List.append_assoc, List.cons_append, List.nil_append]
theorem ZBE : (ZFb X V s lr B).Perm (ZCR X V s ++ (oN X lr :: B)) := by rw [ZAn]
theorem ZIW : ZFb X V s lr B = ZFb X V s lr [] ++ B := by simp only [ZFb, List.append_assoc, List.cons_append, List.nil_append]
theorem ZK1 : (O :: ZFb X V s lr B).Perm (ZFb X V s lr (O :: B)) := by
 rw [ZIW (B := B), ZIW (B := O :: B)]
 exact List.perm_middle.symm
end
abbrev Lay.wc (X : Lay) (n : Int) : Lay := { X with cf := n }
abbrev Lay.wa (X : Lay) (vT vL : Value) (u : Nat -> Value) (wv : Int -> Value) : Lay := { X with vT := vT, vL := vL, u := u, wv := wv }
abbrev bkS (s : SS) (a1 : Int -> Bool) (a2 : Nat -> Nat) (a3 : Nat -> Option Nat) (a4 : List Int) (a5 : List Nat) (a6 : Nat) : SS := { s with val := a1, lev := a2, rea := a3, trail := a4, begins := a5, head := a6 }
theorem ZLV (s : SS) (c : List Int) : (ZA7 s c).list.length = s.list.length + 1 := by
 unfold ZA7
 split
 ·simp
 ·repeat' split
  all_goals simp [Zq]
 ·simp
abbrev Lay.wn (X : Lay) (v : Value) : Lay := { X with vN := v }
abbrev Lay.wb (X : Lay) (v v' : Value) : Lay := { X with vT := v, vB := v' }
theorem ZE3 (A : List HObj) {L1 L2 B : List HObj} {ob : HObj} : (A ++ (L1 ++ (L2 ++ (ob :: B)))).Perm (ob :: (A ++ (L1 ++ (L2 ++ B)))) := by
 have e : ∀ C, A ++ (L1 ++ (L2 ++ C)) = (A ++ L1 ++ L2) ++ C := fun C => by simp only [List.append_assoc]
 rw [e, e]
 exact List.perm_middle
theorem mTail (A : List HObj) {L1 L2 B : List HObj} {ob : HObj} : ob ∈ A ++ (L1 ++ (L2 ++ (ob :: B))) := (ZE3 A).mem_iff.2 (by simp)
theorem ZJf {P : Program} {ops : Array Oper} {β : Type} {D : β -> Dat} {o : Oper} {fr : List Dat} (A : List HObj) {L1 L2 B : List HObj} {ob : HObj} {H : β -> HObj} (k : ∀ q : List HObj, SW P ops (ob :: q) (fun x => H x :: q) D o fr) : SW P ops (A ++ (L1 ++ (L2 ++ (ob :: B)))) (fun x => A ++ (L1 ++ (L2 ++ (H x :: B)))) D o fr :=
 SW.perm (ZE3 A) (fun _ => (ZE3 A).symm) (k _)
structure RT where
 vT : Value
 vB : Value
 vL : Value
 vN : Value
 wv : Int -> Value
 u : Nat -> Value
 cf : Int
 r : RS
abbrev Lay.rs (X : Lay) (y : RT) : Lay := { X with vT := y.vT, vB := y.vB, vL := y.vL, vN := y.vN, wv := y.wv, u := y.u, cf := y.cf }
structure Ready (s : SS) : Prop where
 t : ∀ x ∈ s.trail, x.natAbs ≤ 1000000
 b : ∀ b ∈ s.begins, b ≤ s.trail.length
 tl : s.trail.length ≤ 1000000
 bl : s.begins.length ≤ 1000000
def runK (V : Nat) (am : List Int) (cls : List S43.Cl) (bX : Nat) (v v' : Value) (hpc hp2 : List HObj) : Prop := ∃ (Y : Lay) (s : SS) (lr : List S43.Cl) (k : Int) (res : List Int) (rs : List HObj),
 v = .int .i64 k /\ Y.b = bX /\ Ready s /\ hpc = core Y V s /\ hp2 = oW Y :: oC Y s :: (ZEI Y s ++ (ZEJ Y V s ++ (oN Y lr :: rs))) /\ (rs = [ZS v' tI RI res] \/ (rs = [] /\ v' = ZCX /\ res = [])) /\ RunR V am cls k res lr /\ ∀ c ∈ lr, Srt c
def ZOK (V : Nat) (am : List Int) (cls : List S43.Cl) (bX : Nat) (v v' : Value) (q hp2 : List HObj) : Prop := ∃ (Y : Lay) (s : SS) (lr : List S43.Cl) (k : Int) (res : List Int) (rs : List HObj) (vT vB : Value),
 v = .int .i64 k /\ Y.b = bX /\ q = core { Y with vT := vT, vB := vB } V (Zz s 0) /\ hp2 = oW Y :: oC Y s :: (ZEI Y s ++ (ZEJ Y V s ++ (oN Y lr :: rs))) /\ (rs = [ZS v' tI RI res] \/ (rs = [] /\ v' = ZCX /\ res = [])) /\ RunR V am cls k res lr /\ ∀ c ∈ lr, Srt c
theorem ZGH {V : Nat} {am : List Int} {cls : List S43.Cl} {bX : Nat} {v' : Value} {f : List Dat} {hp : List HObj} (Y : Lay) (s : SS) (lr : List S43.Cl) (k : Int) (res : List Int) (rs : List HObj) (h4 : f[4]? = some (dX (.int .i64 k))) (h5 : f[5]? = some (dX v')) (hb : Y.b = bX) (hr : Ready s) (hsr : ∀ c ∈ lr, Srt c) (hs : rs = [ZS v' tI RI res] \/ (rs = [] /\ v' = ZCX /\ res = [])) (hR : RunR V am cls k res lr) :
  ∃ v v' hpc hp2, f[4]? = some (dX v) /\ f[5]? = some (dX v') /\ ZFb Y V s lr (rs ++ hp) = hpc ++ (hp2 ++ hp) /\ runK V am cls bX v v' hpc hp2 :=
 ⟨_, v', core Y V s, oW Y :: oC Y s :: (ZEI Y s ++ (ZEJ Y V s ++ (oN Y lr :: rs))), h4, h5, by simp only [ZFb, core, List.append_assoc, List.cons_append, List.nil_append], Y, s, lr, k, res, rs, rfl, hb, hr, rfl, rfl, hs, hR, hsr⟩
theorem ZIP {V : Nat} {am : List Int} {cls : List S43.Cl} {r : RS} (h : GInv V am cls r) (hV : V ≤ 10) (hA : am.length ≤ 10) (hcl : cls.length ≤ 1000000) : r.learned.length ≤ 2147483648 /\ r.s.list.length ≤ 3000000000 /\ r.s.trail.length ≤ 10 /\ r.s.begins.length ≤ 20 := by
 have h1 := Nat.lt_of_le_of_lt h.cnt (S43.mu_lt h.bl h.tl)
 have h2 : 2 ^ (V + (am.length + V) + 1) ≤ 2 ^ 31 := Nat.pow_le_pow_right (by decide) (by omega)
 have h3 : (2 : Nat) ^ 31 = 2147483648 := by decide
 have h4 := h.list.1
 rw [List.length_append] at h4
 have h5 := h.tl
 have h6 := h.bl
 omega
theorem ZDl {V : Nat} {am : List Int} {cls : List S43.Cl} {r : RS} (h : GInv V am cls r) (hV : V ≤ 10) (hA : am.length ≤ 10) : Ready r.s := by
 have h5 := h.tl
 have h6 := h.bl
 exact ⟨fun x hx => by have := (h.inv.trng x hx).2; omega, fun b hb => Nat.le_trans (h.inv.bh b hb) h.inv.hl, by omega, by omega⟩
theorem ZIr {V : Nat} {s : SS} {k : Nat} (h : CInv V s k) (hV : V ≤ 10) (hb : s.begins.length ≤ 20) : Ready s /\ s.trail.length ≤ 10 /\ ∀ l, (s.watch l).length ≤ s.list.length := by
 obtain ⟨E, w, c, hI, _⟩ := h.ex
 have := hI.toInv0.tlen
 exact ⟨⟨fun x hx => by have := (hI.trng x hx).2; omega, fun b hb => Nat.le_trans (hI.bh b hb) hI.hl, by omega, by omega⟩, by omega, hI.toInv0.wlen⟩
theorem ZFn {P : Program} {ops : Array Oper} {hp : List HObj} {fr : List Dat} {dst : Option Tmp} {ty : TypeId} {ps : String} {af : Array Edge} {g : Option (Nat × Bool)} {x : Operand} {T : TypeId} {b c : Bool} (h : (!b) = c) (hx : OpD fr x (dB b)) : SY P ops hp ⟨dst, .unOp .not T x, ty, ps, af, g⟩ fr (dB c) := h ▸ SY.not hx
theorem ZNY {V K : Nat} {bs : List Nat} {t t' : Nat} (h : t ≤ t') : meas V K bs t' ≤ meas V K bs t := by
 unfold S43.meas
 have := S43.mu_mono (N := V + K) (bs := bs) h
 exact Nat.add_le_add_right (Nat.mul_le_mul_right _ (Nat.sub_le_sub_left this _)) _
def ZNt (V : Nat) (s : SS) (l : Int) : Prop := l ≠ 0 /\ l.natAbs ≤ V /\ s.val l = false /\ s.val (-l) = false
set_option maxHeartbeats 64000000 in
theorem D.run_w (X : Lay) (V : Nat) (am : List Int) (cls : List S43.Cl) (r : RS) (hV : V ≤ 10) (hA : am.length ≤ 10) (hAs : ∀ x ∈ am, x ≠ 0 /\ x.natAbs ≤ V) (hcl : cls.length ≤ 1000000) (hG : GInv V am cls r) (hcf : X.cf = (r.learned.length : Int)) (hSr : ∀ c ∈ r.learned, Srt c)
  (hBl : ∀ (Y : Lay) (r : RS) (x : Int), GInv V am cls r -> am[r.s.begins.length]? = some x -> -x ∈ r.s.trail -> CallC Tryz.prog 76 ([dX (ZDZ Y), dS ZW am, dI x] ++ ([] : List Value).map dX) (ZCR Y V r.s) (fun d hp2 => ∃ v, d = dX v /\ hp2 = ZS v tI RI (ZBR r.s am x) :: ZCR Y V r.s)) :
  CallC Tryz.prog 34 ([dX (ZDZ X), dS ZW am] ++ ([] : List Value).map dX) (ZFb X V r.s r.learned []) (fun d hp => ∃ v v' q hp2, d = dT [dX v, dX v'] /\ hp = q ++ hp2 /\ ZOK V am cls X.b v v' q hp2) := by
 refine ZGS (F0 := [dX (ZDZ X), dS ZW am, dX undef, dX undef, dI 0, dX ZCX] ++ List.replicate 167 (dX undef)) (K := runK V am cls X.b) (K2 := ZOK V am cls X.b) (vp := ZDZ X) Tryz.func34 rfl rfl Tryz.func71 rfl rfl Tryz.call71 (fun hp => ?h0) rfl rfl ?ht1 (fun hp => ?h1) (fun hp => ?hw) (fun v v' hpc hp2 hk hp => ?hback)
 -- @kinds (*solver.search).run
 case h0 =>
  simp only [Tryz.ntmps34, List.length_cons, List.length_nil, List.length_append, List.length_map, Nat.reduceAdd, Nat.reduceSub, List.replicate_succ, List.replicate_zero, List.cons_append, List.nil_append, List.map_cons, List.map_nil, List.append_assoc]
  ((repeat' (first | ((first | apply WL.opN | apply WD.opN); exact yF; dsimp only [ZB, z0, z1]) | refine WL.nil ?_)); all_goals (first | ((repeat clear hK); (repeat clear Kx))))
  exact ⟨rfl, rfl, rfl⟩
 case ht1 => simp only [List.replicate_succ, List.replicate_zero, List.cons_append, List.nil_append, List.length_cons, List.length_nil]; omega
 case h1 =>
  simp only [List.replicate_succ, List.replicate_zero, List.cons_append, List.nil_append]
  exact SY.move (OpD.t rfl)
 case hback =>
  obtain ⟨Y, s, lr, k, res, rs, h1, h2, h3, rfl, h5, h6, h7⟩ := hk
  have := ZNy hp rfl Y V s 0 (by omega) h3.t h3.b h3.tl h3.bl
  have e : ZDZ Y = ZDZ X := by unfold ZDZ; rw [h2]
  rw [e] at this
  refine Go.Proofs.YtjmignmnlpamjaaGreat.WC.mono this fun e f p ⟨hx, hp3, hq, v1, v2, h9⟩ => ⟨hx, hp3, hq, Y, s, lr, k, res, rs, v1, v2, h1, h2, h9, h5, h6, h7⟩
 case hw =>
  simp only [List.replicate_succ, List.replicate_zero, List.cons_append, List.nil_append]
  dsimp only [z0, z1]
  (repeat' (first |  (refine WC.label ?_) | refine ZA fun Kx hK => ?_ | (refine hK _ _ ?_; clear hK) | refine WC.block ?_))
  (refine ZP (X := RT) (fun y => [(4, dA), (5, dA), (6, dA), (7, dA), (8, dA), (9, dA), (10, dA), (11, dA), (13, dA), (14, dA), (15, dA), (16, dA), (17, dA), (18, dA), (19, dA), (20, dA), (21, dA), (22, dA), (23, dA), (24, dA), (25, dA), (26, dA), (27, dA), (28, dA), (29, dA), (30, dA), (31, dA), (32, dA), (33, dA), (34, dA), (35, dA), (36, dA), (37, dA), (38, dA), (39, dA), (40, dA), (41, dA), (42, dA), (43, dA), (44, dA), (45, dA), (46, dA), (47, dA), (48, dA), (49, dA), (50, dA), (51, dA), (52, dA), (53, dA), (54, dA), (55, dA), (56, dA), (57, dA), (58, dA), (59, dA), (60, dA), (61, dA), (62, dA), (63, dA), (64, dA), (65, dA), (66, dA), (67, dA), (68, dA), (69, dA), (70, dA), (71, dA), (72, dA), (73, dA), (74, dA), (75, dA), (76, dA), (77, dA), (78, dA), (79, dA), (80, dA), (81, dA), (82, dA), (83, dA), (84, dA), (85, dA), (86, dA), (87, dA), (88, dA), (89, dA), (90, dA), (91, dA), (92, dA), (93, dA), (94, dA), (95, dA), (96, dA), (97, dA), (98, dA), (99, dA), (100, dA), (101, dA), (102, dA), (103, dA), (104, dA), (105, dA), (106, dA), (107, dA), (108, dA), (109, dA), (110, dA), (111, dA), (112, dA), (113, dA), (114, dA), (115, dA), (116, dA), (117, dA), (118, dA), (119, dA), (120, dA), (121, dA), (122, dA), (123, dA), (124, dA), (125, dA), (126, dA), (127, dA), (128, dA), (129, dA), (130, dA), (131, dA), (132, dA), (133, dA), (134, dA), (135, dA), (136, dA), (137, dA), (138, dA), (139, dA), (140, dA), (141, dA), (142, dA), (143, dA), (144, dA), (145, dA), (146, dA), (147, dA), (148, dA), (149, dA), (150, dA), (151, dA), (152, dA), (153, dA), (154, dA), (155, dA), (156, dA), (157, dA), (158, dA), (159, dA), (160, dA), (161, dA), (162, dA), (163, dA), (164, dA), (165, dA), (166, dA), (167, dA), (168, dA), (169, dA), (170, dA), (171, dA), (172, dA)]) (fun y => (ZFb (X.rs y) V y.r.s y.r.learned hp)) (fun y => meas V (am.length + V) y.r.s.begins y.r.s.trail.length) (fun y => GInv V am cls y.r /\ y.cf = (y.r.learned.length : Int) /\ ∀ c ∈ y.r.learned, Srt c) ⟨X.vT, X.vB, X.vL, X.vN, X.wv, X.u, X.cf, r⟩ ?start ?frame0 ?objs0 ?round)
  case start => exact ⟨hG, hcf, hSr⟩
  case frame0 => ((try dsimp only [ZX, z0, z1]); repeat (first | exact LeF.nil | refine ZG (k := ?_)))
  case objs0 => simp only [ZFb, List.append_assoc, List.cons_append, List.nil_append]
  case round =>
   rintro y ⟨hg, hc, hsr⟩
   dsimp only [ZX, z0, z1]
   obtain ⟨b1, b2, b3, b4⟩ := ZIP hg hV hA hcl
   have hcB : 0 ≤ y.cf /\ y.cf ≤ 2147483648 := by omega
   by_cases hd : y.r.s.dead = true
   ·clear hBl
    ((repeat' (first | ((first | apply WL.opN | apply WD.opN); exact yF; dsimp only [ZB, z0, z1]) | refine WL.nil ?_ | refine ZA fun Kx hK => ?_ | (refine hK _ _ ?_; clear hK) | (refine Kont.skip ?_; clear hK) | refine WC.region ?_ | ((first | apply ZJ | apply WD.op); (focus (first | exact wN | (apply SYG.yes; (exact wY); ((first | (exact ZH (OpD.t rfl)) | (refine ZM ZAz (OpD.t rfl) (by decide)) | (apply ZI; (first | exact tyI | exact ZAl | exact ZCz | exact tyF | exact ZBi | exact ZBs); exact OpD.t rfl; exact mAt 0 rfl; rfl) | ((first | apply SY.move | apply SY.assign | apply SY.lss | apply SY.leq | apply SY.gtr | apply SY.geq | apply SY.eql | apply SY.not) <;> (exact oD)) | fail); all_goals infer_instance)))); dsimp only [ZB, z0, z1]) | (apply ZL; (exact oD); all_goals (intro h; try exact xD)) | refine WC.skip ?_ | refine WC.ret ?_ | refine WC.exit ?_ | refine WC.block ?_)); all_goals (first | refine WL.id ?_ | ((repeat clear hK); (repeat clear Kx))))
    all_goals try (exfalso; first | contradiction | omega | (exact absurd (hd.symm.trans h) (by decide)))
    exact ⟨trivial, ZGH (X.rs y) y.r.s y.r.learned 2 [] [] rfl rfl rfl (ZDl hg hV hA) hsr (.inr ⟨rfl, rfl, rfl⟩) (.inl ⟨rfl, rfl, y.r, rfl, hg, hg.no_dead hd⟩)⟩
   have hd' : y.r.s.dead = false := by simpa using hd
   obtain ⟨⟨s1, o⟩, hk⟩ : ∃ p, ZAG (V + 1) y.r.s = p := ⟨_, rfl⟩
   have hpr := ZHl (X.rs y) V y.r.s (by omega) hg.inv (by omega)
   rw [hk] at hpr
   simp only at hpr
   obtain ⟨kp, kn, kc⟩ := S43.prop_ok (V + 1) y.r.s hg.inv (by omega)
   rw [hk] at kp kn kc
   simp only at kp kn kc
   have hls : s1.list.length = y.r.s.list.length := kp.same.1.symm
   have hbs : s1.begins.length = y.r.s.begins.length := by rw [kp.beg]
   have e1 : (ZAj s1.begins).length = s1.begins.length := ZAW _
   cases o with
   | some k =>
    have hC := kc k rfl
    obtain ⟨hrd, ht10, hwl⟩ := ZIr hC hV (by omega)
    simp only [rI] at hpr
    have hge : (k : Int) ≥ 0 := by omega
    have hC2 : CInv V s1 k := hC
    by_cases hb0 : s1.begins = []
    ·have hb1 : s1.begins.length = 0 := by rw [hb0]; rfl
     clear hBl
     ((repeat' (first | ((first | apply WL.opN | apply WD.opN); exact yF; dsimp only [ZB, z0, z1]) | refine WL.nil ?_ | refine ZA fun Kx hK => ?_ | (refine hK _ _ ?_; clear hK) | (refine Kont.skip ?_; clear hK) | refine WC.region ?_ |  (refine ZAv (hp1 := ZCR _ _ _) (caps := []) hpr Tryz.call72 OpD.f (by (exact aD)) ZBE ?_; rintro d' hp2 ⟨vT1, wv1, rfl, rfl⟩; rw [ZAn]; dsimp only [ZB, z0, z1]) |  (refine ZK (SW.at 0 rfl fun q => SW.storeS tyI (OpD.t rfl) (OpD.t rfl) Zf (by simp)) fun _ => ?_; dsimp only [ZB, z0, z1]) |  (refine ZK (SW.at 0 rfl fun q => SW.storeS ZBs (OpD.t rfl) OpD.b ZAJ (by simp)) fun _ => ?_; dsimp only [ZB, z0, z1]) | ((first | apply ZJ | apply WD.op); (focus (first | exact wN | (apply SYG.yes; (exact wY); ((first | (exact ZH (OpD.t rfl)) | (refine ZM ZAz (OpD.t rfl) (by decide)) | (apply ZI; (first | exact tyI | exact ZAl | exact ZCz | exact tyF | exact ZBi | exact ZBs); exact OpD.t rfl; exact mAt 0 rfl; rfl) | (exact SY.add (OpD.t rfl) Zl (by show _ ≤ y.cf + 1 /\ _; omega)) | (exact ZAu e1 (OpD.t rfl) (mAt 5 rfl) elI.unt) | ((first | apply SY.move | apply SY.assign | apply SY.lss | apply SY.leq | apply SY.gtr | apply SY.geq | apply SY.eql | apply SY.not) <;> (exact oD)) | fail); all_goals infer_instance)))); dsimp only [ZB, z0, z1]) | (apply ZC; (exact oD); all_goals (intro h; try exact xD)) | (apply ZL; (exact oD); all_goals (intro h; try exact xD)) | refine WC.skip ?_ | refine WC.ret ?_ | refine WC.exit ?_ | refine WC.block ?_)); all_goals (first | ((repeat clear hK); (repeat clear Kx))))
     all_goals try (exfalso; first | contradiction | omega | (exact absurd (hd.symm.trans h) (by decide)))
     exact ⟨trivial, ZGH { (((X.rs y).wt vT1).ww wv1) with cf := y.cf + 1 } { s1 with dead := true } y.r.learned 2 [] [] rfl rfl rfl ⟨hrd.t, hrd.b, hrd.tl, hrd.bl⟩ hsr (.inr ⟨rfl, rfl, rfl⟩) (.inl ⟨rfl, rfl, y.r, rfl, hg, hg.no_zero (k := k) (by rw [hk]) (by rw [hk]; exact hb0)⟩)⟩
    ·have hL := S43.learn_ok hC hb0
     have hbp : 0 < s1.begins.length := List.length_pos_iff.2 hb0
     obtain ⟨⟨c, lv⟩, hcv⟩ : ∃ p, ZAx s1 k = p := ⟨_, rfl⟩
     rw [hcv] at hL
     simp only at hL
     have hgl : ∀ oo : List Int, oo.Perm c -> GInv V am cls ⟨Zk (Zz s1 lv) c, y.r.learned ++ [oo]⟩ /\ meas V (am.length + V) (Zk (Zz s1 lv) c).begins (Zk (Zz s1 lv) c).trail.length < meas V (am.length + V) y.r.s.begins y.r.s.trail.length := fun oo ho => by
      have := hg.learn (k := k) (by rw [hk]) (by rw [hk]; exact hb0) (o := oo) (by rw [hk, hcv]; exact ho)
      simp only [hk, hcv] at this
      exact this
     have hlv := hL.lt
     have hcR : ∀ x ∈ c, x ≠ 0 /\ x.natAbs ≤ V := by
      obtain ⟨E, w, c0, hI, _⟩ := hC.ex
      obtain ⟨x, rest, h1, h2, _, h4, _⟩ := hL.ex
      intro z hz
      rw [h1] at hz
      rcases List.mem_cons.1 hz with rfl | hz
      ·have := hI.trng x h2; omega
      ·have := hI.trng _ (h4 z hz).1; omega
     have hcl10 : c.length ≤ V := S43.trail_len hcR hL.dis
     have hcR6 : ∀ x ∈ c, x.natAbs ≤ 1000000 := fun x hx => by have := (hcR x hx).2; omega
     have hln := fun Y : Lay => ZNS Y V s1 k (by omega) hC hb0 (by omega)
     rw [hcv] at hln
     simp only at hln
     obtain ⟨a1, a2, a3, a4, a5, a6, hs2, hq3⟩ : ∃ a1 a2 a3 a4 a5 a6, Zz s1 lv = bkS s1 a1 a2 a3 a4 a5 a6 /\ a4.length ≤ 10 := by
      unfold Zz
      rw [if_neg (by omega)]
      exact ⟨_, _, _, _, _, _, rfl, by rw [List.length_take]; omega⟩
     have hbk := fun Y : Lay => ZNx Y V s1 lv (by omega) hrd.t hrd.b hrd.tl hrd.bl
     rw [hs2] at hbk
     have had := fun Y : Lay => ZNv Y V (bkS s1 a1 a2 a3 a4 a5 a6) c (by omega) hcR (by omega) (by show s1.list.length ≤ _; omega) (fun l => by have := hwl l; show (s1.watch l).length ≤ _; omega) (by show a4.length ≤ _; omega)
     have hor := ZKk c (by omega) hcR6
     have hos : ∀ (d : Dat) (hp2 : List HObj), (∃ ys : {ys : List Int // ys.Perm c /\ Srt ys}, d = dS ZW ys.1 /\ hp2 = []) -> ∃ ys : {ys : List Int // ys.Perm c /\ Srt ys}, d = dS ZW ys.1 /\ hp2 = [] := fun _ _ h => h
     have h24 : (y.r.learned.length + 1) * 24 ≤ 140737488355328 := by omega
     have hgt : decide ((20 : Int) < (V : Int)) = false := by rw [decide_eq_false_iff_not]; omega
     rw [hs2] at hgl
     have hl3 : (ZA7 (bkS s1 a1 a2 a3 a4 a5 a6) c).list.length = s1.list.length + 1 := ZLV _ _
     have he0 : ∀ u : Nat -> Value, ((List.range (ZA7 (bkS s1 a1 a2 a3 a4 a5 a6) c).list.length).map u).length = s1.list.length + 1 := fun u => by rw [List.length_map, List.length_range, hl3]
     have hsub : (((s1.list.length + 1 : Nat)) : Int) - 1 = (s1.list.length : Int) := by omega
     clear hBl
     (repeat' (first |  (refine WC.only 11 (Halt.go ?_)) | ((first | apply WL.opN | apply WD.opN); exact yF; dsimp only [ZB, z0, z1]) | refine WL.nil ?_ | refine ZA fun Kx hK => ?_ | (refine hK _ _ ?_; clear hK) | refine WC.region ?_ |  (refine ZAv (hp1 := ZCR _ _ _) (caps := []) hpr Tryz.call72 OpD.f (by (exact aD)) ZBE ?_; rintro d' hp2 ⟨vT1, wv1, rfl, rfl⟩; rw [ZAn]; dsimp only [ZB, z0, z1]) |  (refine ZK (SW.at 0 rfl fun q => SW.storeS tyI (OpD.t rfl) (OpD.t rfl) Zf (by simp)) fun _ => ?_; dsimp only [ZB, z0, z1]) |  (refine ZAv (hp1 := ZCR _ _ _) (caps := []) (hln ((((X.rs y).wt vT1).ww wv1).wc (y.cf + 1))) Tryz.call73 OpD.f (by (exact aD)) (ZBE (X := (((X.rs y).wt vT1).ww wv1).wc (y.cf + 1)) (V := V) (s := s1)) ?_; rintro d' hp2 ⟨vc, rfl, rfl⟩; rw [List.cons_append, ZAn]; dsimp only [ZB, z0, z1]) | ((first | apply ZJ | apply WD.op); (focus (first | exact wN | (apply SYG.yes; (exact wY); ((first | (exact ZH (OpD.t rfl)) | (refine ZM ZAz (OpD.t rfl) (by decide)) | (apply ZI; (first | exact tyI | exact ZAl | exact ZCz | exact tyF | exact ZBi | exact ZBs); exact OpD.t rfl; exact mAt 0 rfl; rfl) | (exact SY.add (OpD.t rfl) Zl (by show _ ≤ y.cf + 1 /\ _; omega)) | (exact ZAu e1 (OpD.t rfl) (mAt 5 rfl) elI.unt) | (exact ZFk hgt (OpD.t rfl) Zl) | ((first | apply SY.move | apply SY.assign | apply SY.lss | apply SY.leq | apply SY.gtr | apply SY.geq | apply SY.eql | apply SY.not) <;> (exact oD)) | (apply Zp; (exact oD); (with_reducible rfl); (exact oD)) | (apply SY.extract; (exact oD); rfl) | fail); all_goals infer_instance)))); dsimp only [ZB, z0, z1]) | (apply Zg; (exact oD); (with_reducible rfl)) | (apply ZC; (exact oD); all_goals (intro h; try exact xD)) | (apply ZL; (exact oD); all_goals (intro h; try exact xD)) | refine WC.skip ?_ | refine WC.block ?_))
     all_goals try (exfalso; first | contradiction | omega)
     refine ⟨?_⟩
     refine ZA2 (s := 7) rfl ?_
     dsimp only [z0, z1]
     (repeat' (first |  (refine WC.drawM (fun hp' => oS ((((X.rs y).wt vT1).ww wv1).wc (y.cf + 1)) V s1 ∈ hp') 9 3 [(0, false), (1, false), (2, false), (3, false), (4, false), (5, false), (6, true), (7, false), (8, true)] [true, true, true, true, true, true, true, true, true, false, false, false] (by kernel_rfl) (by kernel_rfl) (by kernel_rfl) rfl (mAt 0 rfl) ?_) |  (first | refine WA.one (S := [true, true, true, true, true, true, true, true, true, false, false, false]) (i := 9) (by kernel_rfl) rfl ?_ | refine WA.one (S := [true, true, true, true, true, true, true, true, true, true, false, false]) (i := 10) (by kernel_rfl) rfl ?_ | refine WA.one (S := [true, true, true, true, true, true, true, true, true, true, true, false]) (i := 11) (by kernel_rfl) rfl ?_ | refine WA.nil (S := [true, true, true, true, true, true, true, true, true, true, true, true]) (by kernel_rfl) ?_) |  (refine ZAf rfl (SW.callC (hp1 := []) (caps := []) (H := fun o : {ys : List Int // ys.Perm c /\ Srt ys} => []) (D := fun o => dS ZW o.1) hor Tryz.call74 OpD.f (by (exact aD)) hos) (fun _ => mAt 0 rfl) fun oo => ?_; obtain ⟨oo, hoo⟩ := oo; dsimp only [ZB, z0, z1, List.cons_append, List.nil_append]) |  (refine ZAf rfl (ZJf [_, _, _, _, _, _, _, _] fun q => SW.app1 ZB7 (R := ZW) (_gR := inferInstance) (OpD.t rfl) (OpD.t rfl) (by decide) h24) (fun _ => mAt 0 rfl) fun vN2 => ?_; dsimp only [ZB, z0, z1, List.cons_append, List.nil_append]) |  (refine WC.only 13 (Halt.go ?_)) | (refine WM.nil ?_) | (apply ZBC rfl; (focus (intro c hcc; apply SYG.yes; (exact Zi rfl); ((first | (exact ZH (OpD.t rfl)) | (refine ZM ZAz (OpD.t rfl) (by decide)) | (apply ZI; (first | exact tyI | exact ZAl | exact ZCz | exact tyF | exact ZBi | exact ZBs); exact OpD.t rfl; (first | exact hcc | exact hcc.1 | exact mAt 0 rfl); rfl) | (exact SY.build1' ZB7 (R := ZW) (_gR := inferInstance) (els := [oo]) (Zt (OpD.t rfl) Zy) rfl rfl (fun _ => ZAA) (by simp)) | ((first | apply SY.move | apply SY.assign | apply SY.lss | apply SY.leq | apply SY.gtr | apply SY.geq | apply SY.eql | apply SY.not) <;> (exact oD)) | fail); all_goals infer_instance))); dsimp only [ZB, z0, z1]) | ((first | apply WL.opN | apply WD.opN); exact yF; dsimp only [ZB, z0, z1]) | refine WL.nil ?_ | refine ZA fun Kx hK => ?_ | (refine hK _ _ ?_; clear hK) | refine WC.region ?_ |  (refine ZBM (mTail [_, _, _, _, _, _, _, _]) fun hvv => ?_; refine ZK (SW.at 0 rfl fun q => SW.storeS ZCz (OpD.t rfl) (OpD.t rfl) (Z8 hvv) (by simp)) fun _ => ?_; dsimp only [ZB, z0, z1]) |  (refine WL.callC (hp1 := core _ _ _) (caps := []) (hbk (((((X.rs y).wt vT1).ww wv1).wc (y.cf + 1)).wn vN2)) Tryz.call71 OpD.f (by (exact aD)) ?_; rintro d' hp2 ⟨vT3, vB3, rfl⟩; dsimp only [ZB, z0, z1, List.cons_append, List.nil_append]) | ((first | apply ZJ | apply WD.op); (focus (first | exact wN | (apply SYG.yes; (exact wY); ((first | (exact ZH (OpD.t rfl)) | (refine ZM ZAz (OpD.t rfl) (by decide)) | fail); all_goals infer_instance)))); dsimp only [ZB, z0, z1])))
     all_goals try (exfalso; first | contradiction | omega)
     refine ⟨?_⟩
     by_cases h1c : 1 < c.length
     ·have hp0 : 0 < c.length := by omega
      have hlt1 : (1 : Int) < (c.length : Int) := by omega
      have hc0 : c.getD 0 0 = c[0] := by rw [List.getD_eq_getElem?_getD, List.getElem?_eq_getElem hp0, Option.getD_some]
      have hfin : Zk (bkS s1 a1 a2 a3 a4 a5 a6) c = Zq (ZA7 (bkS s1 a1 a2 a3 a4 a5 a6) c) c[0] (some s1.list.length) := by
       unfold Zk
       rw [if_pos h1c, hc0]
      rw [hfin] at hgl
      have hat : (ZA7 (bkS s1 a1 a2 a3 a4 a5 a6) c).trail.length ≤ 10 := by
       rw [ZH8 (by omega)]; exact hq3
      have has := fun Y : Lay => ZEb Y V (ZA7 (bkS s1 a1 a2 a3 a4 a5 a6) c) c[0] s1.list.length (by omega) (hcR6 _ (List.getElem_mem hp0)) (by omega)
      simp only [rI] at has
      (repeat' (first |  (refine WC.drawM (fun hp' => oS (((((((X.rs y).wt vT1).ww wv1).wc (y.cf + 1)).wn vN2).wb vT3 vB3).wa vT4 vL4 u4 wv4) V (ZA7 (bkS s1 a1 a2 a3 a4 a5 a6) c) ∈ hp' /\ oC (((((((X.rs y).wt vT1).ww wv1).wc (y.cf + 1)).wn vN2).wb vT3 vB3).wa vT4 vL4 u4 wv4) (ZA7 (bkS s1 a1 a2 a3 a4 a5 a6) c) ∈ hp') 10 1 [(0, false), (1, false), (2, false), (3, false), (4, false), (5, false), (6, false), (7, false), (8, false), (9, false)] [true, true, true, true, true, true, true, true, true, true, false] (by kernel_rfl) (by kernel_rfl) (by kernel_rfl) rfl (⟨mAt 0 rfl, mAt 7 rfl⟩) ?_) |  (first | refine WA.one (S := [true, true, true, true, true, true, true, true, true, true, false]) (i := 10) (by kernel_rfl) rfl ?_ | refine WA.nil (S := [true, true, true, true, true, true, true, true, true, true, true]) (by kernel_rfl) ?_) | (refine WM.nil ?_) | (apply ZBC rfl; (focus (intro c hcc; apply SYG.yes; (exact Zi rfl); ((first | (exact ZH (OpD.t rfl)) | (refine ZM ZAz (OpD.t rfl) (by decide)) | (apply ZI; (first | exact tyI | exact ZAl | exact ZCz | exact tyF | exact ZBi | exact ZBs); exact OpD.t rfl; (first | exact hcc.1 | exact mAt 0 rfl); rfl) | (refine ZAy (R := RI) (_gR := inferInstance) (k := 0) elI (OpD.t rfl) Zl hp0) | (exact ZAu (he0 _) (OpD.t rfl) hcc.2 ZB7.unt) | (exact hsub ▸ SY.sub (OpD.t rfl) Zl (by omega)) | ((first | apply SY.move | apply SY.assign | apply SY.lss | apply SY.leq | apply SY.gtr | apply SY.geq | apply SY.eql | apply SY.not) <;> (exact oD)) | (apply SY.load; (exact tD); (exact oD)) | fail); all_goals infer_instance))); dsimp only [ZB, z0, z1]) | ((first | apply WL.opN | apply WD.opN); exact yF; dsimp only [ZB, z0, z1]) | refine WL.nil ?_ | refine ZA fun Kx hK => ?_ | (refine hK _ _ ?_; clear hK) | refine WC.region ?_ |  (refine ZAv (hp1 := ZCR _ _ _) (caps := []) (had ((((((X.rs y).wt vT1).ww wv1).wc (y.cf + 1)).wn vN2).wb vT3 vB3)) Tryz.call70 OpD.f (by (exact aD)) (ZBE (X := ((((((X.rs y).wt vT1).ww wv1).wc (y.cf + 1)).wn vN2).wb vT3 vB3)) (V := V) (s := (bkS s1 a1 a2 a3 a4 a5 a6))) ?_; rintro d' hp2 ⟨vT4, vL4, u4, wv4, rfl⟩; rw [ZAn]; dsimp only [ZB, z0, z1]) |  (refine WL.callC (hp1 := core _ _ _) (caps := []) (has (((((((X.rs y).wt vT1).ww wv1).wc (y.cf + 1)).wn vN2).wb vT3 vB3).wa vT4 vL4 u4 wv4)) Tryz.call75 OpD.f (by (exact aD)) ?_; rintro d' hp2 ⟨vT5, rfl⟩; dsimp only [ZB, z0, z1, List.cons_append, List.nil_append]) | ((first | apply ZJ | apply WD.op); (focus (first | exact wN | (apply SYG.yes; (exact wY); ((first | ((first | apply SY.move | apply SY.assign | apply SY.lss | apply SY.leq | apply SY.gtr | apply SY.geq | apply SY.eql | apply SY.not) <;> (exact oD)) | (apply SY.len; (exact oD); (exact nD); (exact uD)) | fail); all_goals infer_instance)))); dsimp only [ZB, z0, z1]) | (apply ZC; (exact oD); all_goals (intro h; try exact xD)) | refine WC.exit ?_ | refine ThenD.n ?_ | refine ThenD.x ?_ | refine InBlockD.x ?_))
      all_goals try (exfalso; first | contradiction | omega)
      obtain ⟨hg2, hm2⟩ := hgl oo hoo.1
      (refine ⟨⟨vT5, vB3, vL4, vN2, wv4, u4, y.cf + 1, ⟨Zq (ZA7 (bkS s1 a1 a2 a3 a4 a5 a6) c) c[0] (some s1.list.length), y.r.learned ++ [oo]⟩⟩, ?_, by first | omega | (simp only; omega), rfl, ?_⟩; rotate_left; ((try dsimp only [ZX, z0, z1]); repeat (first | exact LeF.nil | refine ZG (k := ?_))); (try dsimp only))
      exact ⟨hg2, by simp only [List.length_append, List.length_singleton]; omega, fun c hc => by
       rcases List.mem_append.1 hc with hc | hc
       ·exact hsr c hc
       ·rw [List.mem_singleton.1 hc]; exact hoo.2⟩
     ·have hlt1 : ¬ (1 : Int) < (c.length : Int) := by omega
      have hfin : Zk (bkS s1 a1 a2 a3 a4 a5 a6) c = ZA7 (bkS s1 a1 a2 a3 a4 a5 a6) c := by
       unfold Zk
       rw [if_neg h1c]
      rw [hfin] at hgl
      (repeat' (first | ((first | apply WL.opN | apply WD.opN); exact yF; dsimp only [ZB, z0, z1]) | refine WL.nil ?_ | refine ZA fun Kx hK => ?_ | (refine hK _ _ ?_; clear hK) | refine WC.region ?_ |  (refine ZAv (hp1 := ZCR _ _ _) (caps := []) (had ((((((X.rs y).wt vT1).ww wv1).wc (y.cf + 1)).wn vN2).wb vT3 vB3)) Tryz.call70 OpD.f (by (exact aD)) (ZBE (X := ((((((X.rs y).wt vT1).ww wv1).wc (y.cf + 1)).wn vN2).wb vT3 vB3)) (V := V) (s := (bkS s1 a1 a2 a3 a4 a5 a6))) ?_; rintro d' hp2 ⟨vT4, vL4, u4, wv4, rfl⟩; rw [ZAn]; dsimp only [ZB, z0, z1]) | ((first | apply ZJ | apply WD.op); (focus (first | exact wN | (apply SYG.yes; (exact wY); ((first | ((first | apply SY.move | apply SY.assign | apply SY.lss | apply SY.leq | apply SY.gtr | apply SY.geq | apply SY.eql | apply SY.not) <;> (exact oD)) | (apply SY.len; (exact oD); (exact nD); (exact uD)) | fail); all_goals infer_instance)))); dsimp only [ZB, z0, z1]) | (apply ZC; (exact oD); all_goals (intro h; try exact xD)) | refine WC.skip ?_ | refine WC.exit ?_ | refine ThenD.n ?_ | refine ThenD.x ?_ | refine InBlockD.x ?_))
      all_goals try (exfalso; first | contradiction | omega)
      obtain ⟨hg2, hm2⟩ := hgl oo hoo.1
      (refine ⟨⟨vT4, vB3, vL4, vN2, wv4, u4, y.cf + 1, ⟨ZA7 (bkS s1 a1 a2 a3 a4 a5 a6) c, y.r.learned ++ [oo]⟩⟩, ?_, by first | omega | (simp only; omega), rfl, ?_⟩; rotate_left; ((try dsimp only [ZX, z0, z1]); repeat (first | exact LeF.nil | refine ZG (k := ?_))); (try dsimp only))
      exact ⟨hg2, by simp only [List.length_append, List.length_singleton]; omega, fun c hc => by
       rcases List.mem_append.1 hc with hc | hc
       ·exact hsr c hc
       ·rw [List.mem_singleton.1 hc]; exact hoo.2⟩
   | none =>
    obtain ⟨hi1, hh1⟩ := kn rfl
    have hgp := hg.prop (by rw [hk])
    simp only [hk] at hgp
    obtain ⟨hg1, _, hbeq, htl, hdd⟩ := hgp
    have hme : meas V (am.length + V) s1.begins s1.trail.length ≤ meas V (am.length + V) y.r.s.begins y.r.s.trail.length := by
     rw [hbeq]; exact ZNY htl
    have hmo := fun (n : Nat) (h : n < meas V (am.length + V) s1.begins s1.trail.length) => Nat.lt_of_lt_of_le h hme
    have ht1 := hi1.toInv0.tlen
    simp only [rI] at hpr
    have hv64 : ∀ x : Int, x.natAbs ≤ V -> ZAF x /\ ZAF (-x) := fun x hx => ⟨i64 (by omega), i64 (by omega)⟩
    by_cases hA1 : ∃ hlt : s1.begins.length < am.length, s1.val (-am[s1.begins.length]) = true
    ·obtain ⟨hlt, hv1⟩ := hA1
     have hx := hAs _ (List.getElem_mem hlt)
     have hbl := fun Y : Lay => hBl Y ⟨s1, y.r.learned⟩ am[s1.begins.length] hg1 (List.getElem?_eq_getElem hlt) ((hi1.val _).1 hv1)
     have hi := hv64 _ hx.2
     have hng : -9223372036854775808 ≤ -am[s1.begins.length] /\ -am[s1.begins.length] ≤ 9223372036854775807 := by omega
     clear hBl
     have hltI : (s1.begins.length : Int) < (am.length : Int) := by omega
     ((repeat' (first | ((first | apply WL.opN | apply WD.opN); exact yF; dsimp only [ZB, z0, z1]) | refine WL.nil ?_ | refine ZA fun Kx hK => ?_ | (refine hK _ _ ?_; clear hK) | refine WC.region ?_ |  (refine ZAv (hp1 := ZCR _ _ _) (caps := []) hpr Tryz.call72 OpD.f (by (exact aD)) ZBE ?_; rintro d' hp2 ⟨vT1, wv1, rfl, rfl⟩; rw [ZAn]; dsimp only [ZB, z0, z1]) |  (refine ZAv (hp1 := ZCR _ _ _) (caps := []) (hbl (((X.rs y).wt vT1).ww wv1)) Tryz.call76 OpD.f (by (exact aD)) (ZBE (X := (((X.rs y).wt vT1).ww wv1)) (V := V) (s := s1)) ?_; rintro d' hp2 ⟨vb, rfl, rfl⟩; rw [List.cons_append, ZAn]; refine WL.perm ZK1 ?_; dsimp only [ZB, z0, z1]) | ((first | apply ZJ | apply WD.op); (focus (first | exact wN | (apply SYG.yes; (exact wY); ((first | (exact ZH (OpD.t rfl)) | (refine ZM ZAz (OpD.t rfl) (by decide)) | (apply ZI; (first | exact tyI | exact ZAl | exact ZCz | exact tyF | exact ZBi | exact ZBs); exact OpD.t rfl; exact mAt 0 rfl; rfl) | (exact ZAu e1 (OpD.t rfl) (mAt 5 rfl) elI.unt) | (refine ZAy (R := RI) (_gR := inferInstance) (k := s1.begins.length) elI (OpD.t rfl) (OpD.t rfl) hlt) | (exact SY.neg (OpD.t rfl) (by omega)) | (exact SY.valH hv1 (OpD.t rfl) (mAt 1 rfl) (OpD.t rfl) hi.2) | ((first | apply SY.move | apply SY.assign | apply SY.lss | apply SY.leq | apply SY.gtr | apply SY.geq | apply SY.eql | apply SY.not) <;> (exact oD)) | (apply SY.len; (exact oD); (exact nD); (exact uD)) | fail); all_goals infer_instance)))); dsimp only [ZB, z0, z1]) | (apply Zj; (exact oD); (with_reducible rfl)) | (apply ZC; (exact oD); all_goals (intro h; try exact xD)) | (apply ZL; (exact oD); all_goals (intro h; try exact xD)) | refine WC.skip ?_ | refine WC.ret ?_ | refine WC.block ?_ | refine ThenD.r ?_ | refine InBlockD.r ?_)); all_goals (first | ((repeat clear hK); (repeat clear Kx))))
     all_goals try (exfalso; first | contradiction | omega)
     exact ⟨trivial, ZGH (((X.rs y).wt vT1).ww wv1) s1 y.r.learned 2 (ZBR s1 am am[s1.begins.length]) [ZS vb tI RI _] rfl rfl rfl (ZDl hg1 hV hA) hsr (.inl rfl) (.inr (.inr ⟨rfl, ⟨s1, y.r.learned⟩, am[s1.begins.length], rfl, hg1, List.getElem?_eq_getElem hlt, (hi1.val _).1 hv1, rfl⟩))⟩
    by_cases hA2 : ∃ hlt : s1.begins.length < am.length, s1.val am[s1.begins.length] = true
    ·obtain ⟨hlt, hv2⟩ := hA2
     have hv1 : s1.val (-am[s1.begins.length]) = false := by
      cases h : s1.val (-am[s1.begins.length]) with
      | false => rfl
      | true => exact absurd ⟨hlt, h⟩ hA1
     have hx := hAs _ (List.getElem_mem hlt)
     have hi := hv64 _ hx.2
     have hng : -9223372036854775808 ≤ -am[s1.begins.length] /\ -am[s1.begins.length] ≤ 9223372036854775807 := by omega
     clear hBl
     have hltI : (s1.begins.length : Int) < (am.length : Int) := by omega
     have h8 : ((ZAj s1.begins).length + 1) * 8 ≤ 140737488355328 := by rw [e1]; omega
     have e2 : ZAj s1.begins ++ [(s1.trail.length : Int)] = ZAj (s1.begins ++ [s1.trail.length]) := by simp [ZAj]
     (repeat' (first |  (refine WC.drawM (fun hp' => oS (((X.rs y).wt vT1).ww wv1) V s1 ∈ hp' /\ oT (((X.rs y).wt vT1).ww wv1) s1 ∈ hp') 12 3 [(0, false), (1, false), (2, false), (3, false), (4, false), (5, false), (6, false), (7, false), (8, false), (9, false), (10, false), (11, true)] [true, true, true, true, true, true, true, true, true, true, true, true, false, false, false] (by kernel_rfl) (by kernel_rfl) (by kernel_rfl) rfl (⟨mAt 0 rfl, mAt 4 rfl⟩) ?_) |  (first | refine WA.one (S := [true, true, true, true, true, true, true, true, true, true, true, true, false, false, false]) (i := 12) (by kernel_rfl) rfl ?_ | refine WA.one (S := [true, true, true, true, true, true, true, true, true, true, true, true, true, false, false]) (i := 13) (by kernel_rfl) rfl ?_ | refine WA.one (S := [true, true, true, true, true, true, true, true, true, true, true, true, true, true, false]) (i := 14) (by kernel_rfl) rfl ?_ | refine WA.nil (S := [true, true, true, true, true, true, true, true, true, true, true, true, true, true, true]) (by kernel_rfl) ?_) |  (refine ZAf rfl (SW.at 5 rfl fun q => SW.app1 elI (OpD.t rfl) (OpD.t rfl) (by decide) h8) (fun _ => ⟨mAt 0 rfl, mAt 4 rfl⟩) fun vB7 => ?_; dsimp only [ZB, z0, z1]) | (refine WM.nil ?_) | (apply ZBC rfl; (focus (intro c hcc; apply SYG.yes; (exact Zi rfl); ((first | (exact ZH (OpD.t rfl)) | (refine ZM ZAz (OpD.t rfl) (by decide)) | (apply ZI; (first | exact tyI | exact ZAl | exact ZCz | exact tyF | exact ZBi | exact ZBs); exact OpD.t rfl; (first | exact hcc.1 | exact mAt 0 rfl); rfl) | (apply Z3; exact OpD.t rfl; exact hcc.2; exact elI.unt) | ((first | apply SY.move | apply SY.assign | apply SY.lss | apply SY.leq | apply SY.gtr | apply SY.geq | apply SY.eql | apply SY.not) <;> (exact oD)) | (apply SY.build1'; (exact eD); ((try simp only [List.map_cons, List.map_nil]); (repeat (first | exact Zy | (apply Zt; (first | exact OpD.t rfl | exact Zl | exact OpD.b | exact OpD.tle rfl (by first | exact ZD | exact ZE (by decide)) | exact ⟨ZD⟩ | exact ⟨ZE (by decide)⟩))))); rfl; rfl; (intro _; first | exact ZAY | exact Zf | exact ZAA | exact ZAJ); (exact (by simp))) | fail); all_goals infer_instance))); dsimp only [ZB, z0, z1]) | ((first | apply WL.opN | apply WD.opN); exact yF; dsimp only [ZB, z0, z1]) | refine WL.nil ?_ | refine ZA fun Kx hK => ?_ | (refine hK _ _ ?_; clear hK) | refine WC.region ?_ |  (refine ZAv (hp1 := ZCR _ _ _) (caps := []) hpr Tryz.call72 OpD.f (by (exact aD)) ZBE ?_; rintro d' hp2 ⟨vT1, wv1, rfl, rfl⟩; rw [ZAn]; dsimp only [ZB, z0, z1]) |  (refine ZBM (mAt 5 rfl) fun hvv => ?_; refine ZK (SW.at 0 rfl fun q => SW.storeS ZAl (OpD.t rfl) (OpD.t rfl) (Z8 hvv) (by simp)) fun _ => ?_; dsimp only [ZB, z0, z1]) | ((first | apply ZJ | apply WD.op); (focus (first | exact wN | (apply SYG.yes; (exact wY); ((first | (exact ZH (OpD.t rfl)) | (refine ZM ZAz (OpD.t rfl) (by decide)) | (apply ZI; (first | exact tyI | exact ZAl | exact ZCz | exact tyF | exact ZBi | exact ZBs); exact OpD.t rfl; (first | exact hcc.1 | exact mAt 0 rfl); rfl) | (exact ZAu e1 (OpD.t rfl) (mAt 5 rfl) elI.unt) | (refine ZAy (R := RI) (_gR := inferInstance) (k := s1.begins.length) elI (OpD.t rfl) (OpD.t rfl) hlt) | (exact SY.neg (OpD.t rfl) (by omega)) | (exact SY.valH hv1 (OpD.t rfl) (mAt 1 rfl) (OpD.t rfl) hi.2) | (exact SY.valH hv2 (OpD.t rfl) (mAt 1 rfl) (OpD.t rfl) hi.1) | ((first | apply SY.move | apply SY.assign | apply SY.lss | apply SY.leq | apply SY.gtr | apply SY.geq | apply SY.eql | apply SY.not) <;> (exact oD)) | (apply SY.len; (exact oD); (exact nD); (exact uD)) | fail); all_goals infer_instance)))); dsimp only [ZB, z0, z1]) | (apply Zj; (exact oD); (with_reducible rfl)) | (apply Zg; (exact oD); (with_reducible rfl)) | (apply ZC; (exact oD); all_goals (intro h; try exact xD)) | (apply ZL; (exact oD); all_goals (intro h; try exact xD)) | refine WC.skip ?_ | refine WC.exit ?_ | refine WC.block ?_ | refine ThenD.n ?_ | refine ThenD.x ?_ | refine InBlockD.x ?_ | refine ZCA (by decide) ?_))
     all_goals try (exfalso; first | contradiction | omega)
     rw [e2]
     obtain ⟨hg2, hm2⟩ := hg1.level hh1 (List.getElem?_eq_getElem hlt) ((hi1.val _).1 hv2)
     have hm3 := hmo _ hm2
     (refine ⟨⟨vT1, vB7, y.vL, y.vN, wv1, y.u, y.cf, ⟨ZCH s1, y.r.learned⟩⟩, ?_, by first | omega | (simp only; omega), rfl, ?_⟩; rotate_left; ((try dsimp only [ZX, z0, z1]); repeat (first | exact LeF.nil | refine ZG (k := ?_))); (try dsimp only))
     exact ⟨hg2, hc, hsr⟩
    clear hBl
    obtain ⟨l0, hl0, hU⟩ : ∃ l0, ((∃ h : s1.begins.length < am.length, l0 = am[s1.begins.length]) \/ (¬ s1.begins.length < am.length /\ l0 = 0)) /\ ((ZNt V s1 l0 /\ ∀ x, am[s1.begins.length]? = some x -> x = l0) \/ (l0 = 0 /\ am.length ≤ s1.begins.length)) := by
     by_cases hlt : s1.begins.length < am.length
     ·have hx := hAs _ (List.getElem_mem hlt)
      refine ⟨am[s1.begins.length], .inl ⟨hlt, rfl⟩, .inl ⟨⟨hx.1, hx.2, ?_, ?_⟩, fun x h => ?_⟩⟩
      ·cases h : s1.val am[s1.begins.length] with
       | false => rfl
       | true => exact absurd ⟨hlt, h⟩ hA2
      ·cases h : s1.val (-am[s1.begins.length]) with
       | false => rfl
       | true => exact absurd ⟨hlt, h⟩ hA1
      ·rw [List.getElem?_eq_getElem hlt] at h
       exact (Option.some.inj h).symm
     ·exact ⟨0, .inr ⟨hlt, rfl⟩, .inr ⟨rfl, by omega⟩⟩
    (repeat' (first |  (refine WC.joinR 17 [(9, dI l0), (10, dA), (89, dA), (90, dA), (91, dA), (92, dA), (93, dA), (94, dA), (95, dA), (96, dA), (97, dA), (98, dA), (99, dA), (100, dA), (101, dA), (102, dA), (103, dA), (104, dA), (105, dA), (106, dA), (107, dA), (108, dA), (109, dA), (110, dA), (111, dA), (112, dA), (113, dA), (114, dA), (115, dA), (116, dA), (117, dA), (118, dA), (119, dA), (120, dA), (121, dA), (122, dA), (123, dA), (124, dA), (125, dA), (126, dA), (127, dA), (128, dA), (129, dA), (130, dA), (131, dA), (132, dA), (133, dA), (134, dA)] (ZFb (((X.rs y).wt vT1).ww wv1) V s1 y.r.learned hp) ?_ ?_) | ((first | apply WL.opN | apply WD.opN); exact yF; dsimp only [ZB, z0, z1]) | refine WL.nil ?_ | refine ZA fun Kx hK => ?_ | (refine hK _ _ ?_; clear hK) | refine WC.region ?_ |  (refine ZAv (hp1 := ZCR _ _ _) (caps := []) hpr Tryz.call72 OpD.f (by (exact aD)) ZBE ?_; rintro d' hp2 ⟨vT1, wv1, rfl, rfl⟩; rw [ZAn]; dsimp only [ZB, z0, z1]) | ((first | apply ZJ | apply WD.op); (focus (first | exact wN | (apply SYG.yes; (exact wY); ((first | (exact ZH (OpD.t rfl)) | (refine ZM ZAz (OpD.t rfl) (by decide)) | (apply ZI; (first | exact tyI | exact ZAl | exact ZCz | exact tyF | exact ZBi | exact ZBs); exact OpD.t rfl; exact mAt 0 rfl; rfl) | ((first | apply SY.move | apply SY.assign | apply SY.lss | apply SY.leq | apply SY.gtr | apply SY.geq | apply SY.eql | apply SY.not) <;> (exact oD)) | fail); all_goals infer_instance)))); dsimp only [ZB, z0, z1]) | (apply ZC; (exact oD); all_goals (intro h; try exact xD)) | (apply ZL; (exact oD); all_goals (intro h; try exact xD)) | refine WC.skip ?_ | refine WC.block ?_))
    all_goals try (exfalso; first | contradiction | omega)
    ·refine ⟨?_⟩
     rcases hl0 with ⟨hlt, rfl⟩ | ⟨hlt, rfl⟩
     ·have hltI : (s1.begins.length : Int) < (am.length : Int) := by omega
      have hx := hAs _ (List.getElem_mem hlt)
      have hi := hv64 _ hx.2
      have hng : -9223372036854775808 ≤ -am[s1.begins.length] /\ -am[s1.begins.length] ≤ 9223372036854775807 := by omega
      have hv1 : s1.val (-am[s1.begins.length]) = false := by
       cases h : s1.val (-am[s1.begins.length]) with
       | false => rfl
       | true => exact absurd ⟨hlt, h⟩ hA1
      have hv2 : s1.val am[s1.begins.length] = false := by
       cases h : s1.val am[s1.begins.length] with
       | false => rfl
       | true => exact absurd ⟨hlt, h⟩ hA2
      ((repeat' (first | ((first | apply WL.opN | apply WD.opN); exact yF; dsimp only [ZB, z0, z1]) | refine WL.nil ?_ | refine ZA fun Kx hK => ?_ | (refine hK _ _ ?_; clear hK) | refine WC.region ?_ | ((first | apply ZJ | apply WD.op); (focus (first | exact wN | (apply SYG.yes; (exact wY); ((first | (exact ZH (OpD.t rfl)) | (refine ZM ZAz (OpD.t rfl) (by decide)) | (apply ZI; (first | exact tyI | exact ZAl | exact ZCz | exact tyF | exact ZBi | exact ZBs); exact OpD.t rfl; exact mAt 0 rfl; rfl) | (exact ZAu e1 (OpD.t rfl) (mAt 5 rfl) elI.unt) | (refine ZAy (R := RI) (_gR := inferInstance) (k := s1.begins.length) elI (OpD.t rfl) (OpD.t rfl) hlt) | (exact SY.neg (OpD.t rfl) (by omega)) | (exact SY.valH hv1 (OpD.t rfl) (mAt 1 rfl) (OpD.t rfl) hi.2) | (exact SY.valH hv2 (OpD.t rfl) (mAt 1 rfl) (OpD.t rfl) hi.1) | ((first | apply SY.move | apply SY.assign | apply SY.lss | apply SY.leq | apply SY.gtr | apply SY.geq | apply SY.eql | apply SY.not) <;> (exact oD)) | (apply SY.len; (exact oD); (exact nD); (exact uD)) | fail); all_goals infer_instance)))); dsimp only [ZB, z0, z1]) | (apply Zg; (exact oD); (with_reducible rfl)) | (apply ZC; (exact oD); all_goals (intro h; try exact xD)) | refine WC.skip ?_ | refine WC.block ?_ | refine ThenD.n ?_ | refine InBlockD.n ?_)); all_goals (first | ((repeat clear hK); (repeat clear Kx))))
      all_goals try (exfalso; first | contradiction | omega)
      exact ⟨rfl, by ((try dsimp only [ZX, z0, z1]); repeat (first | exact LeF.nil | refine ZG (k := ?_)))⟩
     ·have hltI : ¬ (s1.begins.length : Int) < (am.length : Int) := by omega
      ((repeat' (first | ((first | apply WL.opN | apply WD.opN); exact yF; dsimp only [ZB, z0, z1]) | refine WL.nil ?_ | refine ZA fun Kx hK => ?_ | (refine hK _ _ ?_; clear hK) | refine WC.region ?_ | ((first | apply ZJ | apply WD.op); (focus (first | exact wN | (apply SYG.yes; (exact wY); ((first | (exact ZH (OpD.t rfl)) | (refine ZM ZAz (OpD.t rfl) (by decide)) | (apply ZI; (first | exact tyI | exact ZAl | exact ZCz | exact tyF | exact ZBi | exact ZBs); exact OpD.t rfl; exact mAt 0 rfl; rfl) | (exact ZAu e1 (OpD.t rfl) (mAt 5 rfl) elI.unt) | ((first | apply SY.move | apply SY.assign | apply SY.lss | apply SY.leq | apply SY.gtr | apply SY.geq | apply SY.eql | apply SY.not) <;> (exact oD)) | (apply SY.len; (exact oD); (exact nD); (exact uD)) | fail); all_goals infer_instance)))); dsimp only [ZB, z0, z1]) | (apply ZC; (exact oD); all_goals (intro h; try exact xD)) | refine WC.skip ?_ | refine ThenD.n ?_)); all_goals (first | ((repeat clear hK); (repeat clear Kx))))
      all_goals try (exfalso; first | contradiction | omega)
      exact ⟨rfl, by ((try dsimp only [ZX, z0, z1]); repeat (first | exact LeF.nil | refine ZG (k := ?_)))⟩
    ·refine ⟨?_⟩
     dsimp only [ZX, z0, z1]
     (repeat' (first | ((first | apply WL.opN | apply WD.opN); exact yF; dsimp only [ZB, z0, z1]) | refine WL.nil ?_ | refine ZA fun Kx hK => ?_ | (refine hK _ _ ?_; clear hK) | refine WC.region ?_ | refine WC.block ?_))
     (refine ZP (X := Nat × Int) (fun z => [(11, dI (z.1 : Int)), (9, dI z.2), (135, dA), (136, dA), (137, dA), (138, dA), (139, dA), (140, dA), (141, dA), (142, dA), (143, dA), (144, dA), (145, dA), (146, dA), (147, dA), (148, dA), (149, dA), (150, dA), (151, dA), (152, dA), (153, dA), (154, dA), (155, dA), (156, dA), (157, dA), (158, dA), (159, dA), (160, dA), (161, dA), (162, dA), (163, dA), (164, dA), (165, dA)]) (fun z => (ZFb (((X.rs y).wt vT1).ww wv1) V s1 y.r.learned hp)) (fun z => V + 1 - z.1) (fun z => 1 ≤ z.1 /\ z.1 ≤ V + 1 /\ ((ZNt V s1 z.2 /\ ∀ x, am[s1.begins.length]? = some x -> x = z.2) \/ (z.2 = 0 /\ am.length ≤ s1.begins.length /\ ∀ v : Nat, 1 ≤ v -> v < z.1 -> s1.val (v : Int) = true \/ s1.val (-(v : Int)) = true))) (1, l0) ?start ?frame0 ?objs0 ?round)
     case start => exact ⟨Nat.le_refl _, by omega, hU.imp id fun ⟨h1, h2⟩ => ⟨h1, h2, fun v h3 h4 => by omega⟩⟩
     case frame0 => ((try dsimp only [ZX, z0, z1]); repeat (first | exact LeF.nil | refine ZG (k := ?_)))
     case objs0 => rfl
     case round =>
      rintro ⟨j, l⟩ ⟨hj1, hj2, hU2⟩
      simp only at hj1 hj2 hU2
      dsimp only [ZX, z0, z1]
      rcases hU2 with ⟨⟨hu0, hu1, hu2, hu3⟩, hua⟩ | ⟨rfl, hle, hall⟩
      ·have hdc := fun Y : Lay => ZLk Y V s1 l (by omega) (by omega) (by omega)
       obtain ⟨hg2, hm2⟩ := hg1.decide (l := l) hh1 ⟨hu0, hu1⟩ (fun x hx e => by
        rcases (by omega : x = l \/ x = -l) with rfl | rfl
        ·rw [(hi1.val _).2 hx] at hu2; cases hu2
        ·rw [(hi1.val _).2 hx] at hu3; cases hu3) hua
       have hm3 := hmo _ hm2
       by_cases hjV : (j : Int) ≤ (V : Int)
       ·((repeat' (first | ((first | apply WL.opN | apply WD.opN); exact yF; dsimp only [ZB, z0, z1]) | refine WL.nil ?_ | refine ZA fun Kx hK => ?_ | (refine hK _ _ ?_; clear hK) | (refine Kont.skip ?_; clear hK) | refine WC.region ?_ |  (refine WL.callC (hp1 := core _ _ _) (caps := []) (hdc (((X.rs y).wt vT1).ww wv1)) Tryz.call78 OpD.f (by (exact aD)) ?_; rintro d' hp2 ⟨vT6, vB6, rfl⟩; dsimp only [ZB, z0, z1, List.cons_append, List.nil_append]) | ((first | apply ZJ | apply WD.op); (focus (first | exact wN | (apply SYG.yes; (exact wY); ((first | (exact ZH (OpD.t rfl)) | (refine ZM ZAz (OpD.t rfl) (by decide)) | (apply ZI; (first | exact tyI | exact ZAl | exact ZCz | exact tyF | exact ZBi | exact ZBs); exact OpD.t rfl; exact mAt 0 rfl; rfl) | ((first | apply SY.move | apply SY.assign | apply SY.lss | apply SY.leq | apply SY.gtr | apply SY.geq | apply SY.eql | apply SY.not) <;> (exact oD)) | (apply Z7; (exact oD); (with_reducible rfl); (exact oD)) | fail); all_goals infer_instance)))); dsimp only [ZB, z0, z1]) | ((first | refine ZZ rfl rfl rfl (fun h => ?_) (fun h => ?_) | refine ZY rfl rfl rfl (fun h => ?_) (fun h => ?_) | refine ZV rfl rfl rfl (fun h => ?_) (fun h => ?_) | refine ZBL rfl rfl rfl (fun h => ?_) (fun h => ?_) | refine ZBK rfl rfl rfl (fun h => ?_) (fun h => ?_) | refine ZA3 rfl rfl rfl (fun h => ?_) (fun h => ?_)) <;> (first | (exfalso; first | omega | contradiction) | (dsimp only [z0, z1]))) | (apply ZC; (exact oD); all_goals (intro h; try exact xD)) | refine WC.skip ?_ | refine WC.exit ?_ | refine ThenD.n ?_ | refine InBlockD.n ?_)); all_goals (first | ((repeat clear hK); (repeat clear Kx))))
        all_goals try (exfalso; first | contradiction | omega)
        (refine ⟨⟨vT6, vB6, y.vL, y.vN, wv1, y.u, y.cf, ⟨ZAI s1 l, y.r.learned⟩⟩, ?_, by first | omega | (simp only; omega), rfl, ?_⟩; rotate_left; ((try dsimp only [ZX, z0, z1]); repeat (first | exact LeF.nil | refine ZG (k := ?_))); (try dsimp only))
        exact ⟨hg2, hc, hsr⟩
       ·((repeat' (first | ((first | apply WL.opN | apply WD.opN); exact yF; dsimp only [ZB, z0, z1]) | refine WL.nil ?_ | refine ZA fun Kx hK => ?_ | (refine hK _ _ ?_; clear hK) | (refine Kont.skip ?_; clear hK) | refine WC.region ?_ |  (refine WL.callC (hp1 := core _ _ _) (caps := []) (hdc (((X.rs y).wt vT1).ww wv1)) Tryz.call78 OpD.f (by (exact aD)) ?_; rintro d' hp2 ⟨vT6, vB6, rfl⟩; dsimp only [ZB, z0, z1, List.cons_append, List.nil_append]) | ((first | apply ZJ | apply WD.op); (focus (first | exact wN | (apply SYG.yes; (exact wY); ((first | (exact ZH (OpD.t rfl)) | (refine ZM ZAz (OpD.t rfl) (by decide)) | (apply ZI; (first | exact tyI | exact ZAl | exact ZCz | exact tyF | exact ZBi | exact ZBs); exact OpD.t rfl; exact mAt 0 rfl; rfl) | ((first | apply SY.move | apply SY.assign | apply SY.lss | apply SY.leq | apply SY.gtr | apply SY.geq | apply SY.eql | apply SY.not) <;> (exact oD)) | (apply Zp; (exact oD); (with_reducible rfl); (exact oD)) | fail); all_goals infer_instance)))); dsimp only [ZB, z0, z1]) | ((first | refine ZZ rfl rfl rfl (fun h => ?_) (fun h => ?_) | refine ZY rfl rfl rfl (fun h => ?_) (fun h => ?_) | refine ZV rfl rfl rfl (fun h => ?_) (fun h => ?_) | refine ZBL rfl rfl rfl (fun h => ?_) (fun h => ?_) | refine ZBK rfl rfl rfl (fun h => ?_) (fun h => ?_) | refine ZA3 rfl rfl rfl (fun h => ?_) (fun h => ?_)) <;> (first | (exfalso; first | omega | contradiction) | (dsimp only [z0, z1]))) | (apply Zg; (exact oD); (with_reducible rfl)) | (apply ZC; (exact oD); all_goals (intro h; try exact xD)) | refine WC.skip ?_ | refine WC.exit ?_ | refine ThenD.n ?_ | refine InBlockD.n ?_)); all_goals (first | ((repeat clear hK); (repeat clear Kx))))
        all_goals try (exfalso; first | contradiction | omega)
        (refine ⟨⟨vT6, vB6, y.vL, y.vN, wv1, y.u, y.cf, ⟨ZAI s1 l, y.r.learned⟩⟩, ?_, by first | omega | (simp only; omega), rfl, ?_⟩; rotate_left; ((try dsimp only [ZX, z0, z1]); repeat (first | exact LeF.nil | refine ZG (k := ?_))); (try dsimp only))
        exact ⟨hg2, hc, hsr⟩
      ·by_cases hjV : j ≤ V
       ·have hjI : (j : Int) ≤ (V : Int) := by omega
        have hi := hv64 (j : Int) (by omega)
        cases hvj : s1.val (j : Int) with
        | true =>
         ((repeat' (first | ((first | apply WL.opN | apply WD.opN); exact yF; dsimp only [ZB, z0, z1]) | refine WL.nil ?_ | refine ZA fun Kx hK => ?_ | (refine hK _ _ ?_; clear hK) | refine WC.region ?_ | ((first | apply ZJ | apply WD.op); (focus (first | exact wN | (apply SYG.yes; (exact wY); ((first | (exact ZH (OpD.t rfl)) | (refine ZM ZAz (OpD.t rfl) (by decide)) | (apply ZI; (first | exact tyI | exact ZAl | exact ZCz | exact tyF | exact ZBi | exact ZBs); exact OpD.t rfl; exact mAt 0 rfl; rfl) | (exact ZFn (b := true) (c := false) rfl (OpD.t rfl)) | (exact SY.valH hvj (OpD.t rfl) (mAt 1 rfl) (OpD.t rfl) hi.1) | ((first | apply SY.move | apply SY.assign | apply SY.lss | apply SY.leq | apply SY.gtr | apply SY.geq | apply SY.eql | apply SY.not) <;> (exact oD)) | ((first | apply SY.add | apply SY.sub) <;> first | exact oD | omega) | (apply Z7; (exact oD); (with_reducible rfl); (exact oD)) | (apply Zp; (exact oD); (with_reducible rfl); (exact oD)) | fail); all_goals infer_instance)))); dsimp only [ZB, z0, z1]) | ((first | refine ZZ rfl rfl rfl (fun h => ?_) (fun h => ?_) | refine ZY rfl rfl rfl (fun h => ?_) (fun h => ?_) | refine ZV rfl rfl rfl (fun h => ?_) (fun h => ?_) | refine ZBL rfl rfl rfl (fun h => ?_) (fun h => ?_) | refine ZBK rfl rfl rfl (fun h => ?_) (fun h => ?_) | refine ZA3 rfl rfl rfl (fun h => ?_) (fun h => ?_)) <;> (first | (exfalso; first | omega | contradiction) | (dsimp only [z0, z1]))) | (apply Zg; (exact oD); (with_reducible rfl)) | (apply ZC; (exact oD); all_goals (intro h; try exact xD)) | refine WC.skip ?_ | refine WC.block ?_ | refine ThenD.n ?_)); all_goals (first | ((repeat clear hK); (repeat clear Kx))))
         all_goals try (exfalso; first | contradiction | omega)
         (refine ⟨(j + 1, 0), ?_, by first | omega | (simp only; omega), rfl, ?_⟩; rotate_left; ((try dsimp only [ZX, z0, z1]); repeat (first | exact LeF.nil | refine ZG (k := ?_))); (try dsimp only))
         exact ⟨by omega, by omega, .inr ⟨rfl, hle, fun v h1 h2 => by
          rcases (by omega : v < j \/ v = j) with h3 | rfl
          ·exact hall v h1 h3
          ·exact .inl hvj⟩⟩
        | false =>
         cases hvm : s1.val (-(j : Int)) with
         | true =>
          ((repeat' (first | ((first | apply WL.opN | apply WD.opN); exact yF; dsimp only [ZB, z0, z1]) | refine WL.nil ?_ | refine ZA fun Kx hK => ?_ | (refine hK _ _ ?_; clear hK) | refine WC.region ?_ | ((first | apply ZJ | apply WD.op); (focus (first | exact wN | (apply SYG.yes; (exact wY); ((first | (exact ZH (OpD.t rfl)) | (refine ZM ZAz (OpD.t rfl) (by decide)) | (apply ZI; (first | exact tyI | exact ZAl | exact ZCz | exact tyF | exact ZBi | exact ZBs); exact OpD.t rfl; exact mAt 0 rfl; rfl) | (exact ZFn (b := true) (c := false) rfl (OpD.t rfl)) | (exact ZFn (b := false) (c := true) rfl (OpD.t rfl)) | (exact SY.neg (OpD.t rfl) (by omega)) | (exact SY.valH hvj (OpD.t rfl) (mAt 1 rfl) (OpD.t rfl) hi.1) | (exact SY.valH hvm (OpD.t rfl) (mAt 1 rfl) (OpD.t rfl) hi.2) | ((first | apply SY.move | apply SY.assign | apply SY.lss | apply SY.leq | apply SY.gtr | apply SY.geq | apply SY.eql | apply SY.not) <;> (exact oD)) | ((first | apply SY.add | apply SY.sub) <;> first | exact oD | omega) | (apply Z7; (exact oD); (with_reducible rfl); (exact oD)) | fail); all_goals infer_instance)))); dsimp only [ZB, z0, z1]) | ((first | refine ZZ rfl rfl rfl (fun h => ?_) (fun h => ?_) | refine ZY rfl rfl rfl (fun h => ?_) (fun h => ?_) | refine ZV rfl rfl rfl (fun h => ?_) (fun h => ?_) | refine ZBL rfl rfl rfl (fun h => ?_) (fun h => ?_) | refine ZBK rfl rfl rfl (fun h => ?_) (fun h => ?_) | refine ZA3 rfl rfl rfl (fun h => ?_) (fun h => ?_)) <;> (first | (exfalso; first | omega | contradiction) | (dsimp only [z0, z1]))) | (apply Zg; (exact oD); (with_reducible rfl)) | (apply ZC; (exact oD); all_goals (intro h; try exact xD)) | refine WC.skip ?_ | refine WC.block ?_ | refine ThenD.n ?_)); all_goals (first | ((repeat clear hK); (repeat clear Kx))))
          all_goals try (exfalso; first | contradiction | omega)
          (refine ⟨(j + 1, 0), ?_, by first | omega | (simp only; omega), rfl, ?_⟩; rotate_left; ((try dsimp only [ZX, z0, z1]); repeat (first | exact LeF.nil | refine ZG (k := ?_))); (try dsimp only))
          exact ⟨by omega, by omega, .inr ⟨rfl, hle, fun v h1 h2 => by
           rcases (by omega : v < j \/ v = j) with h3 | rfl
           ·exact hall v h1 h3
           ·exact .inr hvm⟩⟩
         | false =>
          ((repeat' (first | ((first | apply WL.opN | apply WD.opN); exact yF; dsimp only [ZB, z0, z1]) | refine WL.nil ?_ | refine ZA fun Kx hK => ?_ | (refine hK _ _ ?_; clear hK) | refine WC.region ?_ | ((first | apply ZJ | apply WD.op); (focus (first | exact wN | (apply SYG.yes; (exact wY); ((first | (exact ZH (OpD.t rfl)) | (refine ZM ZAz (OpD.t rfl) (by decide)) | (apply ZI; (first | exact tyI | exact ZAl | exact ZCz | exact tyF | exact ZBi | exact ZBs); exact OpD.t rfl; exact mAt 0 rfl; rfl) | (exact ZFn (b := false) (c := true) rfl (OpD.t rfl)) | (exact SY.neg (OpD.t rfl) (by omega)) | (exact SY.valH hvj (OpD.t rfl) (mAt 1 rfl) (OpD.t rfl) hi.1) | (exact SY.valH hvm (OpD.t rfl) (mAt 1 rfl) (OpD.t rfl) hi.2) | ((first | apply SY.move | apply SY.assign | apply SY.lss | apply SY.leq | apply SY.gtr | apply SY.geq | apply SY.eql | apply SY.not) <;> (exact oD)) | ((first | apply SY.add | apply SY.sub) <;> first | exact oD | omega) | (apply Z7; (exact oD); (with_reducible rfl); (exact oD)) | fail); all_goals infer_instance)))); dsimp only [ZB, z0, z1]) | ((first | refine ZZ rfl rfl rfl (fun h => ?_) (fun h => ?_) | refine ZY rfl rfl rfl (fun h => ?_) (fun h => ?_) | refine ZV rfl rfl rfl (fun h => ?_) (fun h => ?_) | refine ZBL rfl rfl rfl (fun h => ?_) (fun h => ?_) | refine ZBK rfl rfl rfl (fun h => ?_) (fun h => ?_) | refine ZA3 rfl rfl rfl (fun h => ?_) (fun h => ?_)) <;> (first | (exfalso; first | omega | contradiction) | (dsimp only [z0, z1]))) | (apply Zj; (exact oD); (with_reducible rfl)) | (apply ZC; (exact oD); all_goals (intro h; try exact xD)) | refine WC.skip ?_ | refine WC.block ?_ | refine ThenD.n ?_)); all_goals (first | ((repeat clear hK); (repeat clear Kx))))
          all_goals try (exfalso; first | contradiction | omega)
          (refine ⟨(j + 1, -(j : Int)), ?_, by first | omega | (simp only; omega), rfl, ?_⟩; rotate_left; ((try dsimp only [ZX, z0, z1]); repeat (first | exact LeF.nil | refine ZG (k := ?_))); (try dsimp only))
          exact ⟨by omega, by omega, .inl ⟨⟨by omega, by omega, hvm, by rw [Int.neg_neg]; exact hvj⟩, fun x h => by
           have := (List.getElem?_eq_some_iff.1 h).1
           omega⟩⟩
       ·have hjI : ¬ (j : Int) ≤ (V : Int) := by omega
        have hmd := fun Y : Lay => ZNb Y V s1 (by omega) hi1.trng (by omega)
        have hall2 : ∀ x : Int, x ≠ 0 -> x.natAbs ≤ V -> x ∈ s1.trail \/ -x ∈ s1.trail := fun x h0 h1 => by
         have := hall x.natAbs (by omega) (by omega)
         rw [hi1.val, hi1.val] at this
         rcases (by omega : ((x.natAbs : Nat) : Int) = x \/ ((x.natAbs : Nat) : Int) = -x) with e | e
         ·rw [e] at this; exact this
         ·rw [e, Int.neg_neg] at this; exact this.symm
        ((repeat' (first | ((first | apply WL.opN | apply WD.opN); exact yF; dsimp only [ZB, z0, z1]) | refine WL.nil ?_ | refine ZA fun Kx hK => ?_ | (refine hK _ _ ?_; clear hK) | (refine Kont.skip ?_; clear hK) | refine WC.region ?_ |  (refine WL.callC (hp1 := core _ _ _) (caps := []) (hmd (((X.rs y).wt vT1).ww wv1)) Tryz.call77 OpD.f (by (exact aD)) ?_; rintro d' hp2 ⟨vm, rfl, rfl⟩; dsimp only [ZB, z0, z1, List.cons_append, List.nil_append]; refine WL.perm (ZK1 (X := (((X.rs y).wt vT1).ww wv1)) (V := V) (s := s1) (lr := y.r.learned)) ?_) | ((first | apply ZJ | apply WD.op); (focus (first | exact wN | (apply SYG.yes; (exact wY); ((first | (exact ZH (OpD.t rfl)) | (refine ZM ZAz (OpD.t rfl) (by decide)) | (apply ZI; (first | exact tyI | exact ZAl | exact ZCz | exact tyF | exact ZBi | exact ZBs); exact OpD.t rfl; exact mAt 0 rfl; rfl) | ((first | apply SY.move | apply SY.assign | apply SY.lss | apply SY.leq | apply SY.gtr | apply SY.geq | apply SY.eql | apply SY.not) <;> (exact oD)) | (apply Zp; (exact oD); (with_reducible rfl); (exact oD)) | fail); all_goals infer_instance)))); dsimp only [ZB, z0, z1]) | ((first | refine ZZ rfl rfl rfl (fun h => ?_) (fun h => ?_) | refine ZY rfl rfl rfl (fun h => ?_) (fun h => ?_) | refine ZV rfl rfl rfl (fun h => ?_) (fun h => ?_) | refine ZBL rfl rfl rfl (fun h => ?_) (fun h => ?_) | refine ZBK rfl rfl rfl (fun h => ?_) (fun h => ?_) | refine ZA3 rfl rfl rfl (fun h => ?_) (fun h => ?_)) <;> (first | (exfalso; first | omega | contradiction) | (dsimp only [z0, z1]))) | (apply Zg; (exact oD); (with_reducible rfl)) | (apply ZC; (exact oD); all_goals (intro h; try exact xD)) | refine WC.ret ?_ | refine WC.exit ?_ | refine ThenD.r ?_ | refine InBlockD.r ?_)); all_goals (first | ((repeat clear hK); (repeat clear Kx))))
        all_goals try (exfalso; first | contradiction | omega)
        exact ⟨trivial, ZGH (((X.rs y).wt vT1).ww wv1) s1 y.r.learned 1 (ZBz V s1.trail) [ZS vm tI RI _] rfl rfl rfl (ZDl hg1 hV hA) hsr (.inl rfl) (.inr (.inl ⟨rfl, ⟨s1, y.r.learned⟩, rfl, hg1, hh1, hdd.trans hd', hall2, hle, rfl⟩))⟩
end
end Go.Proofs.YtjmignmnlpamjaaGreat
