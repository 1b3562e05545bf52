/- Part 36: walks by contracts, and plain laws. -/
import Derived.Test.YtjmignmnlpamjaaGreatVa34
import Derived.Test.YtjmignmnlpamjaaGreatVa35
set_option linter.unusedVariables false
set_option linter.unusedSimpArgs false
set_option linter.unusedSectionVars false
set_option maxRecDepth 100000
set_option maxHeartbeats 4000000
namespace Go.Proofs.YtjmignmnlpamjaaGreat
section
open Go.RowKit
open S43 (SS up RS GInv ZAO ZBX ZA7 Zz)
section
variable {P : Program} {f : FuncId} {fn : Func} {c : Code} {ds : List Dat} {hp1 : List HObj}
theorem ZEC {fn : Func} {t u v x : Tmp} (h : fn.results = #[.tmp t, .tmp u, .tmp v, .tmp x]) (tmps : Array Value) (w : World) : (results fn tmps).run P w = .ok (.tuple #[tmps.getD t undef, tmps.getD u undef, tmps.getD v undef, tmps.getD x undef]) w := by
 simp [results, h]
def fin4 (t u v x : Nat) (K : Dat -> Dat -> Dat -> Dat -> Prop) (hp : List HObj) : ZAb := fun e f q => (match e with | .normal | .ret => True | _ => False) /\ ∃ d2 d3 d4 d5 e2 e3 e4 e5 : Dat, f[t]? = some d2 /\ f[u]? = some d3 /\ f[v]? = some d4 /\ f[x]? = some d5 /\ d2.le e2 /\ d3.le e3 /\ d4.le e4 /\ d5.le e5 /\ (∃ junk, q = junk ++ hp) /\ K e2 e3 e4 e5
theorem ZD3 {t u v x : Nat} {K : Dat -> Dat -> Dat -> Dat -> Prop} (hf : P.funcs[f]? = some fn) (hb : fn.body = some c) (hr : fn.results = #[.tmp t, .tmp u, .tmp v, .tmp x])
  (h : ∀ hp, WC P (fin4 t u v x K hp) c (ds ++ List.replicate (fn.ntmps - ds.length) (dX undef)) (hp1 ++ hp)) : CallC P f ds hp1 (fun d hp2 => hp2 = [] /\ ∃ e2 e3 e4 e5, d = dT [e2, e3, e4, e5] /\ K e2 e3 e4 e5) := ⟨fun P0 B w0 hp vs W hh hl hv => by
 refine calls_of_wp hf hb ?_
 have hf0 := ZBw (m := fn.ntmps - ds.length) hl hv
 have hsz : vs.toArray.size = ds.length := by simp [hl]
 rw [hsz]
 refine Code.wp_mono (fun e a' w' ⟨f', p', q, hh', hf'⟩ => ?_) ((h hp).on hh hf0)
 obtain ⟨hx, d2, d3, d4, d5, e2, e3, e4, e5, h2, h3, h4, h5, l2, l3, l4, l5, ⟨junk, rfl⟩, hk'⟩ := q
 have hw : ∀ k, Imm P0 B (junk ++ hp) k -> Imm P0 B ([] ++ hp) k := fun k hk => ⟨hk.1, fun o ho => hk.2 o (List.mem_append.2 (.inr ho))⟩
 have g2 := e2.weak (l2 _ _ _ (hf'.rd t _ h2)) hw
 have g3 := e3.weak (l3 _ _ _ (hf'.rd u _ h3)) hw
 have g4 := e4.weak (l4 _ _ _ (hf'.rd v _ h4)) hw
 have g5 := e5.weak (l5 _ _ _ (hf'.rd x _ h5)) hw
 have hT : (dT [e2, e3, e4, e5]).rd (Imm P0 B ([] ++ hp)) w' (.tuple #[a'.tmps.getD t undef, a'.tmps.getD u undef, a'.tmps.getD v undef, a'.tmps.getD x undef]) := ⟨[_, _, _, _], rfl, rfl, fun i e y he hy => by
  match i, he, hy with
  | 0, he, hy => cases he; cases hy; exact g2
  | 1, he, hy => cases he; cases hy; exact g3
  | 2, he, hy => cases he; cases hy; exact g4
  | 3, he, hy => cases he; cases hy; exact g5⟩
 have hh3 : Hp P0 B _ ([] ++ hp) w' := ZDK junk _ hh'
 cases e with
 | normal => exact ⟨hf'.defers, _, ZEC hr _ _, _, _, [], rfl, ⟨rfl, e2, e3, e4, e5, rfl, hk'⟩, hh3, hT⟩
 | ret => exact ⟨hf'.defers, _, ZEC hr _ _, _, _, [], rfl, ⟨rfl, e2, e3, e4, e5, rfl, hk'⟩, hh3, hT⟩
 | _ => exact hx.elim⟩
end
theorem ZL9 {S N H : HObj} {J hp : List HObj} : (S :: (J ++ (N :: H :: hp))).Perm (H :: (J ++ (S :: N :: hp))) :=
 List.perm_middle.symm.trans ((List.Perm.append_left J ((List.Perm.cons S (List.Perm.swap H N hp)).trans (List.Perm.swap H S _))).trans List.perm_middle)
theorem ZMJ (X : Lay) (V : Nat) (am : List Int) (cls : List S43.Cl) (hV : V ≤ 10) (hA : am.length ≤ 10) (hAs : ∀ x ∈ am, x ≠ 0 /\ x.natAbs ≤ V) (hcl : cls.length ≤ 1000000) (hw : WfL V cls) (hX : X.cf = 0) :
  CallC Tryz.prog 34 ([dX (ZDZ X), dS ZW am] ++ ([] : List Value).map dX) (ZFb X V (ZAO cls) [] []) (fun d hp2 => ∃ k res lr Y s, d = dT [dI k, dS ZW res] /\ hp2 = [oS Y V s, oN Y lr] /\ Y.b = X.b /\ RunR V am cls k res lr /\ ∀ c ∈ lr, Srt c) := by
 have hr : ∀ c ∈ cls, (∀ x ∈ c, x ≠ 0 /\ x.natAbs ≤ V) /\ c.Pairwise fun x y => x.natAbs ≠ y.natAbs := fun c hc => ⟨(hw c hc).rng, (hw c hc).inc.imp fun h => by omega⟩
 have hG : GInv V am cls ⟨ZAO cls, []⟩ := S43.ZJd hr
 have h := D.run_w X V am cls ⟨ZAO cls, []⟩ hV hA hAs hcl hG (by rw [hX]; rfl) (fun c hc => by cases hc) (fun Y r x hg hx hxt => by
  have hb := ZIP hg hV hA hcl
  have hxm := hAs x (List.mem_of_getElem? hx)
  exact ZM8 Y V r.s am x (by omega) hg.inv (by omega) hxm.2 (fun y hy => (hAs y hy).2) (by omega))
 refine ⟨fun P0 B w0 hp vs W hh hl hv => ?_⟩
 refine Calls.mono (h.out P0 B w0 hp vs W hh hl hv) fun e' W' ⟨u, d, hp2, he, hk, hh2, hd⟩ => ?_
 obtain ⟨v, v', q, hq2, rfl, rfl, Y, s, lr, k, res, rs, vT, vB, hvk, hbx, rfl, rfl, hrs, hRR, hSS⟩ := hk
 obtain ⟨ts, rfl, htl, hts⟩ := hd
 obtain ⟨u0, u1, rfl⟩ : ∃ u0 u1, ts = [u0, u1] := by
  match ts, htl with
  | [u0, u1], _ => exact ⟨u0, u1, rfl⟩
 have h0 : u0 = v := hts 0 _ u0 rfl rfl
 have h1 : u1 = v' := hts 1 _ u1 rfl rfl
 rw [hvk] at h0
 subst h0 h1
 obtain ⟨J, hJ⟩ : ∃ J : List HObj, J = oV ({ Y with vT := vT, vB := vB }) (Zz s 0) :: oL ({ Y with vT := vT, vB := vB }) (Zz s 0) :: oR ({ Y with vT := vT, vB := vB }) (Zz s 0) :: oT ({ Y with vT := vT, vB := vB }) (Zz s 0) :: oB ({ Y with vT := vT, vB := vB }) (Zz s 0) :: oW Y :: oC Y s :: (ZEI Y s ++ ZEJ Y V s) := ⟨_, rfl⟩
 have heq : core { Y with vT := vT, vB := vB } V (Zz s 0) ++ (oW Y :: oC Y s :: (ZEI Y s ++ (ZEJ Y V s ++ (oN Y lr :: rs)))) ++ hp = oS { Y with vT := vT, vB := vB } V (Zz s 0) :: (J ++ (oN Y lr :: (rs ++ hp))) := by
  rw [hJ]
  simp only [core, List.append_assoc, List.cons_append, List.nil_append]
 rw [heq] at hh2
 rcases hrs with rfl | ⟨rfl, rfl, rfl⟩
 ·obtain ⟨h3, h4⟩ := hh2.perm (ZL9 (S := oS { Y with vT := vT, vB := vB } V (Zz s 0)) (N := oN Y lr) (H := ZS u1 tI RI res) (J := J) (hp := hp))
  have hk := ZBv h3
  have hh5 := ZDK J _ h3.drop
  exact ⟨_, dT [dI k, dS ZW res], [oS { Y with vT := vT, vB := vB } V (Zz s 0), oN Y lr], he, ⟨k, res, lr, { Y with vT := vT, vB := vB }, Zz s 0, rfl, rfl, hbx, hRR, hSS⟩, hh5, ZGi rfl (Good.weak hk fun j hj => ⟨hj.1, fun o ho => hj.2 o (List.mem_append.2 (.inr ho))⟩)⟩
 ·obtain ⟨h3, h4⟩ := hh2.perm (List.perm_middle (a := oS { Y with vT := vT, vB := vB } V (Zz s 0)) (l₁ := J) (l₂ := oN Y lr :: hp)).symm
  have hh5 := ZDK J _ h3
  exact ⟨_, dT [dI k, dS ZW []], [oS { Y with vT := vT, vB := vB } V (Zz s 0), oN Y lr], he, ⟨k, [], lr, { Y with vT := vT, vB := vB }, Zz s 0, rfl, rfl, hbx, hRR, hSS⟩, hh5, ZGi rfl ZCP⟩
theorem ZJ4 {V : Nat} {l : List S43.Cl} (hV : V ≤ 4096) (hw : WfL V l) (hl : l.length ≤ 1000000) : ∀ i, i ≤ l.length -> ((l.take i).foldl ZA7 ZBX).list.length ≤ 2000000000000 /\ (∀ x, (((l.take i).foldl ZA7 ZBX).watch x).length ≤ 2000000000000) /\ ((l.take i).foldl ZA7 ZBX).trail.length ≤ 1000000 := fun i hi => by
 obtain ⟨h1, _, _, h4⟩ := S43.begin_ok (V := V) (l := l.take i) fun c hc => ⟨(hw c (List.mem_of_mem_take hc)).rng, (hw c (List.mem_of_mem_take hc)).inc.imp fun h => by omega⟩
 have h5 := h1.toInv0.tlen
 have h6 : (ZAO (l.take i)).list.length ≤ l.length := by rw [h4, List.length_take]; omega
 have h7 := h1.toInv0.wlen
 refine ⟨?_, fun x => ?_, ?_⟩
 ·show (ZAO (l.take i)).list.length ≤ _; omega
 ·have := h7 x
  show ((ZAO (l.take i)).watch x).length ≤ _; omega
 ·show (ZAO (l.take i)).trail.length ≤ _; omega
theorem ZFt (V : Nat) (l : List S43.Cl) (hV : V ≤ 4096) (hw : WfL V l) (hl : l.length ≤ 1000000) :
  CallC Tryz.prog 33 ([dI (V : Int), dS Rows l] ++ ([] : List Value).map dX) [] (fun d hp2 => ∃ X : Lay, X.cf = 0 /\ d = dX (ZDZ X) /\ hp2 = ZFb X V (ZAO l) [] []) := by
 refine (ZM6 V l (by omega) hl (fun c hc => ⟨(hw c hc).rng, ?_⟩) (ZJ4 hV hw hl)).monoK fun d hp2 ⟨X, h1, h2, h3⟩ => ⟨X, h1, h2, ?_⟩
 ·have := S43.trail_len (V := V) (hw c hc).rng ((hw c hc).inc.imp fun h => by omega)
  omega
 ·rw [h3, ZAn]
set_option maxHeartbeats 8000000 in
theorem ZNn (V : Nat) (l : List (List Int)) (hV : V ≤ 10) (hck : ZQ (V : Int) l = 0) :
  CallC Tryz.prog 32 ([dS Cls ((V : Int), l)] ++ ([] : List Value).map dX) [] (fun d hp2 => hp2 = [] /\ ∃ e2 e3 e4 e5, d = dT [e2, e3, e4, e5] /\ ∃ v m p, e2 = dI v /\ e3 = dS ZW m /\ e4 = dS Rows p /\ e5 = dI 0 /\ SolveR V l v m p) := by
 obtain ⟨_, _, hll, hcl⟩ := Zc hck
 have hl : WfL V l := (Zs (by omega)).1 hcl
 have h1 := ZBT (V : Int) l (ZFX (by omega) hl)
 rw [hck] at h1
 have hb := ZFt V l (by omega) hl (by omega)
 have hr := fun (X : Lay) (hX : X.cf = 0) => ZMJ X V [] l hV (by simp) (fun x hx => by cases hx) (by omega) hl hX
 refine ZD3 Tryz.func32 rfl rfl (fun hp => ?_)
 -- @kinds solver.Solve
 simp only [Tryz.ntmps32, List.length_cons, List.length_nil, List.length_append, List.length_map, Nat.reduceAdd, Nat.reduceSub, List.replicate_succ, List.replicate_zero, List.cons_append, List.nil_append, List.map_cons, List.map_nil, List.append_assoc]
 (repeat' (first |  (refine WC.only 6 (Halt.go ?_)) | (apply WL.opN; exact yF; dsimp only [ZB, z0, z1]) | refine WL.nil ?_ | refine ZA fun Kx hK => ?_ | (refine hK _ _ ?_; clear hK) | refine WC.region ?_ |  (refine WL.callC (hp1 := []) (caps := []) hb Tryz.call33 OpD.f (by (exact aD)) ?_; rintro d' hp2 ⟨X, hX, rfl, rfl⟩; dsimp only [ZB, z0, z1]) |  (refine WL.callC (hp1 := ZFb X V (ZAO l) [] []) (caps := []) (hr X hX) Tryz.call34 OpD.f (ArgsD.cons (OpD.t rfl) (ArgsD.cons ⟨ZD⟩ ArgsD.nil)) ?_; rintro d' hp2 ⟨k, res, lr, Y, s, rfl, rfl, hYb, hRR, hSS⟩; dsimp only [ZB, z0, z1, List.cons_append, List.nil_append]) | (apply ZJ; (focus (first | exact wN | (apply SYG.yes; (exact wY); ((first | (apply SY.call (h1) Tryz.call42; (exact aD)) | ((first | apply SY.move | apply SY.assign | apply SY.lss | apply SY.leq | apply SY.eql | apply SY.neq) <;> (exact oD)) | (apply ZT clT; exact OpD.t rfl) | (apply ZU clT; exact OpD.t rfl) | (apply SY.extract; (exact oD); rfl) | (apply SY.box; (exact oD); (exact hD)) | fail); all_goals infer_instance)))); dsimp only [ZB, z0, z1]) | (apply ZO; (exact oD); all_goals (intro h; try exact xD)) | refine WC.skip ?_))
 all_goals try (exfalso; first | contradiction | omega)
 refine ⟨?_⟩
 have hpt : ZDZ X = ZDZ Y := by unfold ZDZ; rw [hYb]
 rw [hpt]
 rcases hRR.is with rfl | rfl
 ·have hfin := hRR.solve_yes
  clear hRR hSS
  ((repeat' (first | (apply WL.opN; exact yF; dsimp only [ZB, z0, z1]) | refine WL.nil ?_ | refine ZA fun Kx hK => ?_ | (refine hK _ _ ?_; clear hK) | refine WC.region ?_ | (apply ZJ; (focus (first | exact wN | (apply SYG.yes; (exact wY); ((first | ((first | apply SY.move | apply SY.assign | apply SY.lss | apply SY.leq | apply SY.eql | apply SY.neq) <;> (exact oD)) | fail); all_goals infer_instance)))); dsimp only [ZB, z0, z1]) | (apply ZC; (exact oD); all_goals (intro h; try exact xD)) | refine WC.ret ?_ | refine WC.block ?_ | refine ThenD.r ?_ | refine InBlockD.r ?_)); all_goals (first | ((repeat clear hK); (repeat clear Kx))))
  all_goals try (exfalso; first | contradiction | omega)
  exact ⟨trivial, _, _, _, _, dI 1, dS ZW res, dS Rows [], dI 0, rfl, rfl, rfl, rfl, Dat.le_refl _, Dat.le_refl _, ZD, ZAk rfl, ⟨[_, _], rfl⟩, 1, res, [], rfl, rfl, rfl, rfl, hfin⟩
 ·have h24 : (lr.length + 1) * 24 ≤ 140737488355328 := by
   have hlen := hRR.len
   have q2 : 2 ^ (V + (([] : List Int).length + V) + 1) ≤ 2 ^ 21 := Nat.pow_le_pow_right (by decide) (by simp; omega)
   have q3 : (2 : Nat) ^ 21 = 2097152 := by decide
   omega
  have hV20 : (V : Int) ≤ 20 := by omega
  have hfin := hRR.solve_no (by omega) hl hSS
  clear hRR hSS
  obtain ⟨bb, hbb⟩ : ∃ bb : Bool, ∀ {ops : Array Oper} {hp : List HObj} {fr : List Dat} {dst : Option Tmp} {ty : TypeId} {ps : String} {af : Array Edge} {g : Option (Nat × Bool)} {T T2 : TypeId} {x y : Operand}, OpD fr x (dI (lr.length : Int)) -> OpD fr y (dI 32768) -> SY Tryz.prog ops hp ⟨dst, .binOp .lss T x y T2, ty, ps, af, g⟩ fr (dB bb) := ⟨_, fun hx hy => SY.lss hx hy⟩
  cases bb
  ·((repeat' (first | (apply WL.opN; exact yF; dsimp only [ZB, z0, z1]) | refine WL.nil ?_ | refine ZA fun Kx hK => ?_ | (refine hK _ _ ?_; clear hK) | refine WC.region ?_ |  (refine ZK (SW.at 1 rfl fun q => SW.app1 ZB7 (R := ZW) (_gR := inferInstance) (OpD.t rfl) (OpD.t rfl) (by decide) h24) fun vp => ?_; dsimp only [ZB, z0, z1]; refine WL.perm (List.Perm.swap _ _ _) (ZCQ (s := 49) rfl ?_); dsimp only [z0, z1]) | (apply ZJ; (focus (first | exact wN | (apply SYG.yes; (exact wY); ((first | (exact ZH (OpD.t rfl)) | (refine ZM ZAz (OpD.t rfl) (by decide)) | (apply ZI; (first | exact tyI | exact ZAl | exact ZCz | exact tyF | exact ZBi | exact ZBs); exact OpD.t rfl; exact mAt 0 rfl; rfl) | (apply Z3; exact OpD.t rfl; exact mAt 1 rfl; exact ZB7.unt) | (exact hbb (OpD.t rfl) Zl) | (exact SY.build1' ZB7 (R := ZW) (_gR := inferInstance) (els := [[]]) (Zt ⟨ZD⟩ Zy) rfl rfl (fun _ => ZAA) (by simp)) | ((first | apply SY.move | apply SY.assign | apply SY.lss | apply SY.leq | apply SY.eql | apply SY.neq) <;> (exact oD)) | (apply SY.load; (exact tD); (exact oD)) | (apply ZT clT; exact OpD.t rfl) | (apply ZU clT; exact OpD.t rfl) | (apply Zp; (exact oD); (with_reducible rfl); (exact oD)) | fail); all_goals infer_instance)))); dsimp only [ZB, z0, z1]) | (apply ZC; (exact oD); all_goals (intro h; try exact xD)) | refine WC.ret ?_ | refine WC.block ?_ | refine ThenD.r ?_ | refine InBlockD.r ?_)); all_goals (first | ((repeat clear hK); (repeat clear Kx))))
   all_goals try (exfalso; first | contradiction | omega)
   exact ⟨trivial, _, _, _, _, dI 2, dS ZW [], dS Rows (lr ++ [[]]), dI 0, rfl, rfl, rfl, rfl, Dat.le_refl _, ZD, Dat.le_refl _, ZAk rfl, ⟨[_], rfl⟩, 2, [], lr ++ [[]], rfl, rfl, rfl, rfl, hfin⟩
  ·((repeat' (first | (apply WL.opN; exact yF; dsimp only [ZB, z0, z1]) | refine WL.nil ?_ | refine ZA fun Kx hK => ?_ | (refine hK _ _ ?_; clear hK) | refine WC.region ?_ |  (refine ZK (SW.at 1 rfl fun q => SW.app1 ZB7 (R := ZW) (_gR := inferInstance) (OpD.t rfl) (OpD.t rfl) (by decide) h24) fun vp => ?_; dsimp only [ZB, z0, z1]; refine WL.perm (List.Perm.swap _ _ _) (ZCQ (s := 49) rfl ?_); dsimp only [z0, z1]) | (apply ZJ; (focus (first | exact wN | (apply SYG.yes; (exact wY); ((first | (exact ZH (OpD.t rfl)) | (refine ZM ZAz (OpD.t rfl) (by decide)) | (apply ZI; (first | exact tyI | exact ZAl | exact ZCz | exact tyF | exact ZBi | exact ZBs); exact OpD.t rfl; exact mAt 0 rfl; rfl) | (apply Z3; exact OpD.t rfl; exact mAt 1 rfl; exact ZB7.unt) | (exact hbb (OpD.t rfl) Zl) | (exact SY.build1' ZB7 (R := ZW) (_gR := inferInstance) (els := [[]]) (Zt ⟨ZD⟩ Zy) rfl rfl (fun _ => ZAA) (by simp)) | ((first | apply SY.move | apply SY.assign | apply SY.lss | apply SY.leq | apply SY.eql | apply SY.neq) <;> (exact oD)) | (apply Z7; (exact oD); (with_reducible rfl); (exact oD)) | fail); all_goals infer_instance)))); dsimp only [ZB, z0, z1]) | (apply Zj; (exact oD); (with_reducible rfl)) | (apply ZC; (exact oD); all_goals (intro h; try exact xD)) | refine WC.ret ?_ | refine WC.block ?_ | refine ThenD.r ?_ | refine InBlockD.r ?_)); all_goals (first | ((repeat clear hK); (repeat clear Kx))))
   all_goals try (exfalso; first | contradiction | omega)
   exact ⟨trivial, _, _, _, _, dI 2, dS ZW [], dS Rows (lr ++ [[]]), dI 0, rfl, rfl, rfl, rfl, Dat.le_refl _, ZD, Dat.le_refl _, ZAk rfl, ⟨[_], rfl⟩, 2, [], lr ++ [[]], rfl, rfl, rfl, rfl, hfin⟩
end
section
open Go.RowKit
open S43 (ZAO)
theorem ZIa {V : Nat} {l : List (List Int)} : ZB8 V l = true ↔ ZB6 V l [] = [] := by unfold ZB8; exact List.isEmpty_iff
theorem RunR.verdict {V : Nat} {cls lr : List S43.Cl} {k : Int} {res : List Int} (h : RunR V [] cls k res lr) : k = if ZB8 V cls = true then 2 else 1 := by
 rcases h.is with rfl | rfl
 ·rw [if_neg]
  intro q
  have := (h.yes rfl).1
  rw [ZIa.1 q] at this
  cases this
 ·rw [if_pos]
  obtain ⟨h1, h2⟩ := h.no rfl
  rw [ZIa]
  cases hm : ZB6 V cls [] with
  | nil => rfl
  | cons m t => exact absurd (fun x hx => by rw [List.sublist_nil.1 h1] at hx; cases hx) (h2 m (by rw [hm]; simp))
theorem ZNC (v : Value) (xs : List Int) (i : Nat) (hi : i < xs.length) : CallC Tryz.prog 44 ([dX v, dI (i : Int), dI ((i : Int) + 1)] ++ ([] : List Value).map dX) [ZS v tI RI xs] (fun d hp2 => ∃ v', d = dX v' /\ hp2 = [ZS v' tI RI (ZCZ xs i)]) := ⟨fun P0 B w0 hp vs W hh hl hv => by
 match vs, hl with
 | [u0, u1, u2], _ =>
  have e0 : u0 = v := hv 0 _ rfl
  have e1 : u1 = .int .i64 (i : Int) := hv 1 _ rfl
  have e2 : u2 = .int .i64 ((i : Int) + 1) := hv 2 _ rfl
  subst e0 e1 e2
  have hok := (ZS u0 tI RI xs).bound (hh.ok (ZS u0 tI RI xs) (by simp))
  refine (ZOA W hok hi).mono ?_
  rintro e' W' ⟨v', rfl, hO, hg, hb⟩
  exact ⟨v', dX v', [ZS v' tI RI (ZCZ xs i)], rfl, ⟨v', rfl, rfl⟩, hh.write (o' := ZS v' tI RI (ZCZ xs i)) hg (.inl hb) hO, rfl⟩⟩
def ZEh (n i : Nat) : List Int := upI i ++ List.replicate (n - i) 0
theorem ZIx (n : Nat) : ZEh n 0 = List.replicate n 0 := by simp [ZEh, upI]
theorem ZKI {n i : Nat} (h : i ≤ n) : (ZEh n i).length = n := by simp [ZEh, upI]; omega
theorem ZKH (n : Nat) : ZEh n n = upI n := by simp [ZEh]
theorem ZKJ {n i : Nat} (h : i < n) : (ZEh n i).set i (i : Int) = ZEh n (i + 1) := by
 unfold ZEh
 have e1 : (upI i).length = i := by simp [upI]
 rw [List.set_append_right _ _ (by omega), e1, Nat.sub_self, show n - i = (n - (i + 1)) + 1 by omega, List.replicate_succ, List.set_cons_zero]
 have e2 : upI (i + 1) = upI i ++ [(i : Int)] := by simp [upI, List.range_succ]
 rw [e2, List.append_assoc]
 rfl
theorem ZGd {l : List (List Int)} {ks : List Int} {i : Nat} (h : i < ks.length) : Ze l (ks.take (i + 1)) = Ze l (ks.take i) ++ [l.getD (ks[i]).toNat []] := by
 unfold Ze
 rw [List.take_succ_eq_append_getElem h, List.map_append]; rfl
abbrev ZMU (l : List (List Int)) := {ks : List Int // (∀ k ∈ ks, 0 ≤ k /\ k < l.length) /\ ks.length ≤ 32768}
set_option maxHeartbeats 8000000 in
theorem ZLE (V : Nat) (l : List (List Int)) (hV : V ≤ 10) (hw : WfL V l) (ks : ZMU l) : Fn Tryz.prog 43 ([dS ZW ks.1] ++ [dP 2 true (dS Cls ((V : Int), l))]) (dI (if ZB8 V (Ze l ks.1) = true then 2 else 1)) := by
 obtain ⟨ks, hkr, hkl⟩ := ks
 show Fn Tryz.prog 43 [dS ZW ks, dP 2 true (dS Cls ((V : Int), l))] (dI (if ZB8 V (Ze l ks) = true then 2 else 1))
 have hwp : WfL V (Ze l ks) := fun d hd => hw d (ZEf hkr d hd)
 have hcl : (Ze l ks).length ≤ 1000000 := by rw [ZBN]; omega
 have hb := ZFt V (Ze l ks) (by omega) hwp hcl
 have hr := fun (X : Lay) (hX : X.cf = 0) => ZMJ X V [] (Ze l ks) hV (by simp) (fun x hx => by cases hx) hcl hwp hX
 (refine Zb Tryz.func43 rfl rfl ?_; simp only [Tryz.ntmps43, List.length_cons, List.length_nil, Nat.reduceAdd, Nat.reduceSub, List.replicate_succ, List.replicate_zero, List.cons_append, List.nil_append])
 refine ZAH 25 ZW ?_
 (repeat' (first | (apply WL.opN; exact yF; dsimp only [ZB, z0, z1]) | refine WL.nil ?_ | refine ZA fun Kx hK => ?_ | (refine hK _ _ ?_; clear hK) | refine WC.region ?_ | (apply WL.opN; (focus ((first | (apply SY.len; (exact oD); (exact nD); (exact uD)) | fail); all_goals infer_instance)); dsimp only [ZB, z0, z1]) | refine WC.block ?_))
 (refine ZP (X := Nat × Value) (fun x => [(11, dI (x.1 : Int)), (4, dX x.2), (6, dA), (12, dA), (13, dA), (14, dA), (15, dA), (16, dA), (17, dA), (18, dA), (19, dA), (20, dA), (21, dA), (22, dA), (23, dA)]) (fun x => ([ZS x.2 25 ZW (Ze l (ks.take x.1))])) (fun x => ks.length - x.1) (fun x => x.1 ≤ ks.length) (0, ZCX) ?start ?frame0 ?objs0 ?round)
 case start => exact Nat.zero_le _
 case frame0 => ((try dsimp only [ZX, z0, z1]); repeat (first | exact LeF.nil | refine ZG (k := ?_)))
 case objs0 => rfl
 case round =>
  rintro ⟨i, vo⟩ hi
  simp only at hi
  dsimp only [ZX, z0, z1]
  by_cases hil : i < ks.length
  ·have hlti : (i : Int) < (ks.length : Int) := by omega
   obtain ⟨k, hk⟩ : ∃ k, ks[i] = k := ⟨_, rfl⟩
   obtain ⟨q1, q2⟩ := hkr k (by rw [<- hk]; exact List.getElem_mem hil)
   have hkn : k.toNat < l.length := by omega
   have hkc : (k.toNat : Int) = k := by omega
   have et := ZGd (l := l) hil
   rw [hk] at et
   have hgd : l.getD k.toNat [] = l[k.toNat] := by rw [List.getD_eq_getElem?_getD, List.getElem?_eq_getElem hkn]; rfl
   rw [hgd] at et
   have hcln : (Ze l (ks.take i)).length = i := by rw [ZBN, List.length_take]; omega
   have h24 : ((Ze l (ks.take i)).length + 1) * 24 ≤ 140737488355328 := by omega
   ((repeat' (first | (apply WL.opN; exact yF; dsimp only [ZB, z0, z1]) | refine WL.nil ?_ | refine ZA fun Kx hK => ?_ | (refine hK _ _ ?_; clear hK) | refine WC.region ?_ | ((first | apply WL.pushK | apply ZAS); (exact eD); exact OpD.t rfl; (exact oD); (intro _; exact hD); (exact (by simp)); (exact (by simp)); (first | exact ⟨by decide, by decide⟩ | skip); decide; (exact lD); (intro _; dsimp only [ZB, z0, z1]); all_goals (try infer_instance)) | (apply WL.opN; (focus ((first | (refine Z0 (R := RI) (_gR := inferInstance) elI hil hk (OpD.t rfl) (OpD.t rfl)) | (refine ZMV (R := ZW) (_gR := inferInstance) ZB7 (OpD.t rfl) (OpD.t rfl) k.toNat hkc.symm hkn) | ((first | apply SY.move | apply SY.assign | apply SY.lss) <;> (exact oD)) | ((first | apply SY.add) <;> first | exact oD | omega) | (apply ZT clT; exact OpD.t rfl) | (apply ZU clT; exact OpD.t rfl) | fail); all_goals infer_instance)); dsimp only [ZB, z0, z1]) | (apply ZC; (exact oD); all_goals (intro h; try exact xD)) | refine WC.skip ?_ | refine WC.block ?_ | refine ThenD.n ?_)); all_goals (first | ((repeat clear hK); (repeat clear Kx))))
   all_goals try (exfalso; first | contradiction | omega)
   rw [<- et]
   (refine ⟨(i + 1, _), ?_, by first | omega | (simp only; omega), rfl, ?_⟩; rotate_left; ((try dsimp only [ZX, z0, z1]); repeat (first | exact LeF.nil | refine ZG (k := ?_))); (try dsimp only))
   omega
  ·have hlti : ¬ (i : Int) < (ks.length : Int) := by omega
   obtain rfl : i = ks.length := by omega
   rw [List.take_length]
   (repeat' (first |  (refine WC.only 7 (Halt.go ?_)) | refine WL.nil ?_ | refine ZA fun Kx hK => ?_ | (refine hK _ _ ?_; clear hK) | (refine Kont.skip ?_; clear hK) | refine WC.region ?_ | (apply WL.opN; (focus ((first | ((first | apply SY.move | apply SY.assign | apply SY.lss) <;> (exact oD)) | fail); all_goals infer_instance)); dsimp only [ZB, z0, z1]) | (apply ZC; (exact oD); all_goals (intro h; try exact xD)) | refine WC.exit ?_))
   all_goals try (exfalso; first | contradiction | omega)
   refine ⟨ZA2 (s := 4) rfl ?_⟩
   dsimp only [z0, z1]
   (repeat' (first |  (refine WC.only 8 (Halt.go ?_)) | (apply WL.opN; exact yF; dsimp only [ZB, z0, z1]) | refine WL.nil ?_ | refine ZA fun Kx hK => ?_ | (refine hK _ _ ?_; clear hK) | refine WC.region ?_ |  (refine WL.callC (hp1 := []) (caps := []) hb Tryz.call33 OpD.f (ArgsD.cons (OpD.t rfl) (ArgsD.cons (OpD.t rfl) ArgsD.nil)) ?_; rintro d' hp2 ⟨X, hX, rfl, rfl⟩; dsimp only [ZB, z0, z1]) |  (refine WL.callC (hp := []) (hp1 := ZFb X V (ZAO (Ze l ks)) [] []) (caps := []) (hr X hX) Tryz.call34 OpD.f (ArgsD.cons (OpD.t rfl) (ArgsD.cons ⟨ZD⟩ ArgsD.nil)) ?_; rintro d' hp2 ⟨k, res, lr, Y, s, rfl, rfl, hYb, hRR, hSS⟩; dsimp only [ZB, z0, z1, List.cons_append, List.nil_append]) | (apply WL.opN; (focus ((first | (apply ZT clT; exact OpD.t rfl) | (apply ZU clT; exact OpD.t rfl) | (apply SY.extract; (exact oD); rfl) | fail); all_goals infer_instance)); dsimp only [ZB, z0, z1])))
   all_goals try (exfalso; first | contradiction | omega)
   refine ⟨?_⟩
   ((repeat' (first | (apply WL.opN; exact yF; dsimp only [ZB, z0, z1]) | refine WL.nil ?_ | (refine hK _ _ ?_; clear hK) | refine WC.region ?_ | refine WC.ret ?_)); all_goals (first | ((repeat clear hK); (repeat clear Kx))))
   (refine ⟨trivial, _, rfl, ?_⟩; refine ZBP ?_)
   exact hRR.verdict
theorem ZKA {V : Nat} {l : List (List Int)} {q : Nat} {ks : List Int} : ZHm (fun ks => ZB8 V (Ze l ks)) (q + 1) ks = ZHm (fun ks => ZB8 V (Ze l ks)) q (if ZB8 V (Ze l (ZCZ ks q)) = true then ZCZ ks q else ks) := rfl
theorem ZMF {ks : List Int} {q : Nat} {x : Int} (h : x ∈ ZCZ ks q) : x ∈ ks := by
 unfold ZCZ at h
 rcases List.mem_append.1 h with h | h
 ·exact List.mem_of_mem_take h
 ·exact List.mem_of_mem_drop h
set_option maxHeartbeats 16000000 in
theorem ZHY (V : Nat) (l : List (List Int)) (hV : V ≤ 10) (hck : ZQ (V : Int) l = 0) : Fn Tryz.prog 16 [dS Cls ((V : Int), l)] (dT [dS ZW (if ZB8 V l = true then ZCW V l else []), dI (if ZB8 V l = true then 0 else 6)]) := by
 obtain ⟨_, _, hll, hcl⟩ := Zc hck
 have hw : WfL V l := (Zs (by omega)).1 hcl
 have h1 := ZBT (V : Int) l (ZFX (by omega) hw)
 rw [hck] at h1
 have hMk := fun (c : ZMU l) => ZLE V l hV hw c
 have hup : ∀ k ∈ upI l.length, 0 ≤ k /\ k < (l.length : Int) := fun k hk => ZHy hk
 have hul : (upI l.length).length ≤ 32768 := by rw [ZBk]; exact hll
 have h8 : 8 * l.length ≤ 281474976710656 := by omega
 (refine ZAM Tryz.func16 rfl rfl ?_; simp only [Tryz.ntmps16, List.length_cons, List.length_nil, Nat.reduceAdd, Nat.reduceSub, List.replicate_succ, List.replicate_zero, List.cons_append, List.nil_append])
 (repeat' (first | (apply WL.opN; exact yF; dsimp only [ZB, z0, z1]) | refine WL.nil ?_ | refine ZA fun Kx hK => ?_ | (refine hK _ _ ?_; clear hK) | refine WC.region ?_ |  (refine ZH7 elI (OpD.t rfl) (OpD.t rfl) rfl h8 (by omega) fun v => ?_; dsimp only [ZB, z0, z1]) | (apply WL.opN; (focus ((first | (apply SY.call (h1) Tryz.call42; (exact aD)) | (exact ZAu (by simp : (List.replicate l.length (0 : Int)).length = l.length) (OpD.t rfl) (mAt 0 rfl) elI.unt) | ((first | apply SY.move | apply SY.assign | apply SY.lss | apply SY.geq | apply SY.eql | apply SY.neq) <;> (exact oD)) | (apply SY.len; (exact oD); (exact nD); (exact uD)) | (apply ZT clT; exact OpD.t rfl) | (apply ZU clT; exact OpD.t rfl) | (apply SY.box; (exact oD); (exact hD)) | fail); all_goals infer_instance)); dsimp only [ZB, z0, z1]) | (apply ZO; (exact oD); all_goals (intro h; try exact xD)) | refine WC.skip ?_ | refine WC.block ?_))
 all_goals try (exfalso; first | contradiction | omega)
 (refine ZP (X := Nat) (fun i => [(21, dI (i : Int)), (6, dA), (22, dA), (23, dA), (24, dA), (25, dA), (26, dA), (27, dA), (28, dA)]) (fun i => ([ZS v tI RI (ZEh l.length i)])) (fun i => l.length - i) (fun i => i ≤ l.length) 0 ?start ?frame0 ?objs0 ?round)
 case start => exact Nat.zero_le _
 case frame0 => ((try dsimp only [ZX, z0, z1]); repeat (first | exact LeF.nil | refine ZG (k := ?_)))
 case objs0 => rw [ZIx]
 case round =>
  rintro i hi
  dsimp only [ZX, z0, z1]
  by_cases hil : i < l.length
  ·have hlti : (i : Int) < (l.length : Int) := by omega
   have hfl : i < (ZEh l.length i).length := by rw [ZKI hi]; exact hil
   have et := ZKJ hil
   ((repeat' (first | (apply WL.opN; exact yF; dsimp only [ZB, z0, z1]) | refine WL.nil ?_ | refine ZA fun Kx hK => ?_ | (refine hK _ _ ?_; clear hK) | refine WC.region ?_ |  (refine ZK (SW.storeR tyI (OpD.t rfl) (OpD.t rfl) Zf hfl) fun _ => ?_; dsimp only [ZB, z0, z1]) | (apply WL.opN; (focus ((first | (exact Zr elI (OpD.t rfl) (mAt 0 rfl) (OpD.t rfl) rfl hfl) | ((first | apply SY.move | apply SY.assign | apply SY.lss | apply SY.geq | apply SY.eql | apply SY.neq) <;> (exact oD)) | ((first | apply SY.add | apply SY.sub) <;> first | exact oD | omega) | fail); all_goals infer_instance)); dsimp only [ZB, z0, z1]) | (apply ZC; (exact oD); all_goals (intro h; try exact xD)) | refine WC.skip ?_ | refine WC.block ?_ | refine ThenD.n ?_)); all_goals (first | ((repeat clear hK); (repeat clear Kx))))
   all_goals try (exfalso; first | contradiction | omega)
   rw [et]
   (refine ⟨i + 1, ?_, by first | omega | (simp only; omega), rfl, ?_⟩; rotate_left; ((try dsimp only [ZX, z0, z1]); repeat (first | exact LeF.nil | refine ZG (k := ?_))); (try dsimp only))
   omega
  ·have hlti : ¬ (i : Int) < (l.length : Int) := by omega
   obtain rfl : i = l.length := by omega
   rw [ZKH]
   (repeat' (first |  (refine WC.only 10 (Halt.go ?_)) | refine WL.nil ?_ | refine ZA fun Kx hK => ?_ | (refine hK _ _ ?_; clear hK) | (refine Kont.skip ?_; clear hK) | refine WC.region ?_ | (apply WL.opN; (focus ((first | ((first | apply SY.move | apply SY.assign | apply SY.lss | apply SY.geq | apply SY.eql | apply SY.neq) <;> (exact oD)) | fail); all_goals infer_instance)); dsimp only [ZB, z0, z1]) | (apply ZC; (exact oD); all_goals (intro h; try exact xD)) | refine WC.exit ?_))
   all_goals try (exfalso; first | contradiction | omega)
   refine ⟨ZA2 (s := 5) rfl ?_⟩
   dsimp only [z0, z1]
   have hun : ZB8 V (Ze l (upI l.length)) = ZB8 V l := by rw [ZN0]
   cases hu : ZB8 V l with
   | false =>
    rw [hu] at hun
    have hk : (if ZB8 V (Ze l (upI l.length)) = true then (2 : Int) else 1) = 1 := by rw [hun]; rfl
    ((repeat' (first | (apply WL.opN; exact yF; dsimp only [ZB, z0, z1]) | refine WL.nil ?_ | refine ZA fun Kx hK => ?_ | (refine hK _ _ ?_; clear hK) | refine WC.region ?_ | (apply WL.opN; (focus ((first | (apply ZFN (A := fun ks : ZMU l => [dS ZW ks.1]) (r := fun ks => dI (if ZB8 V (Ze l ks.1) = true then 2 else 1)) Tryz.call43 (hMk) (fun _ => ZMW); (exact aD)) | (refine SY.mono (d' := dI 1) (ZEX (x := (⟨upI l.length, hup, hul⟩ : ZMU l)) (OpD.t rfl) (ArgsD.cons (OpD.t rfl) ArgsD.nil)) (ZAk hk)) | ((first | apply SY.move | apply SY.assign | apply SY.lss | apply SY.geq | apply SY.eql | apply SY.neq) <;> (exact oD)) | fail); all_goals infer_instance)); dsimp only [ZB, z0, z1]) | (apply ZC; (exact oD); all_goals (intro h; try exact xD)) | refine WC.ret ?_ | refine WC.block ?_ | refine ThenD.r ?_ | refine InBlockD.r ?_)); all_goals (first | ((repeat clear hK); (repeat clear Kx))))
    all_goals try (exfalso; first | contradiction | omega)
    (refine ⟨trivial, ⟨_, rfl, ?_⟩, _, rfl, ?_⟩ <;> (first | refine ZBP ?_ | refine ZGV ?_)) <;> (rw [hu]; rfl)
   | true =>
    rw [hu] at hun
    have hul2 := ZBk l.length
    have hk : (if ZB8 V (Ze l (upI l.length)) = true then (2 : Int) else 1) = 2 := by rw [hun]; rfl
    (repeat' (first | (apply WL.opN; exact yF; dsimp only [ZB, z0, z1]) | refine WL.nil ?_ | refine ZA fun Kx hK => ?_ | (refine hK _ _ ?_; clear hK) | refine WC.region ?_ | (apply WL.opN; (focus ((first | (apply ZFN (A := fun ks : ZMU l => [dS ZW ks.1]) (r := fun ks => dI (if ZB8 V (Ze l ks.1) = true then 2 else 1)) Tryz.call43 (hMk) (fun _ => ZMW); (exact aD)) | (refine SY.mono (d' := dI 2) (ZEX (x := (⟨upI l.length, hup, hul⟩ : ZMU l)) (OpD.t rfl) (ArgsD.cons (OpD.t rfl) ArgsD.nil)) (ZAk hk)) | ((first | apply SY.move | apply SY.assign | apply SY.lss | apply SY.geq | apply SY.eql | apply SY.neq) <;> (exact oD)) | ((first | apply SY.add | apply SY.sub) <;> first | exact oD | omega) | (apply SY.len; (exact oD); (exact nD); (exact uD)) | fail); all_goals infer_instance)); dsimp only [ZB, z0, z1]) | (apply ZC; (exact oD); all_goals (intro h; try exact xD)) | refine WC.skip ?_ | refine WC.block ?_))
    all_goals try (exfalso; first | contradiction | omega)
    (refine ZP (X := Nat × List Int) (fun x => [(8, dI ((x.1 : Int) - 1)), (5, dS ZW x.2), (2, dA), (3, dA), (9, dA), (40, dA), (41, dA), (42, dA), (43, dA), (44, dA), (45, dA), (46, dA), (47, dA), (48, dA), (49, dA), (50, dA), (51, dA), (52, dA), (53, dA), (54, dA), (55, dA), (56, dA), (57, dA)]) (fun x => ([])) (fun x => x.1) (fun x => x.1 ≤ x.2.length /\ x.2.length ≤ 32768 /\ (∀ k ∈ x.2, 0 ≤ k /\ k < (l.length : Int)) /\ ZHm (fun ks => ZB8 V (Ze l ks)) x.1 x.2 = ZCW V l) (l.length, upI l.length) ?start ?frame0 ?objs0 ?round)
    case start => exact ⟨by rw [ZBk]; exact Nat.le_refl _, hul, hup, rfl⟩
    case frame0 => ((try dsimp only [ZX, z0, z1]); repeat (first | exact LeF.nil | refine ZG (k := ?_)))
    case objs0 => rfl
    case round =>
     rintro ⟨p, ks⟩ ⟨q1, q2, q3, q4⟩
     simp only at q1 q2 q3 q4
     dsimp only [ZX, z0, z1]
     rcases Nat.eq_zero_or_pos p with rfl | hp0
     ·have hge : ¬ ((0 : Nat) : Int) - 1 ≥ 0 := by omega
      have q5 : ks = ZCW V l := q4
      subst q5
      ((repeat' (first | (apply WL.opN; exact yF; dsimp only [ZB, z0, z1]) | refine WL.nil ?_ | refine ZA fun Kx hK => ?_ | (refine hK _ _ ?_; clear hK) | (refine Kont.skip ?_; clear hK) | refine WC.region ?_ | (apply WL.opN; (focus ((first | ((first | apply SY.move | apply SY.assign | apply SY.lss | apply SY.geq | apply SY.eql | apply SY.neq) <;> (exact oD)) | fail); all_goals infer_instance)); dsimp only [ZB, z0, z1]) | (apply ZC; (exact oD); all_goals (intro h; try exact xD)) | refine WC.ret ?_ | refine WC.exit ?_)); all_goals (first | ((repeat clear hK); (repeat clear Kx))))
      all_goals try (exfalso; first | contradiction | omega)
      (refine ⟨trivial, ⟨_, rfl, ?_⟩, _, rfl, ?_⟩ <;> (first | refine ZBP ?_ | refine FinD.s ?_)) <;> (rw [hu]; rfl)
     ·obtain ⟨q, rfl⟩ : ∃ q, p = q + 1 := ⟨p - 1, by omega⟩
      have hge : ((q + 1 : Nat) : Int) - 1 ≥ 0 := by omega
      have hqi : ((q + 1 : Nat) : Int) - 1 = (q : Int) := by omega
      have hql : q < ks.length := by omega
      have hrl : (ZCZ ks q).length = ks.length - 1 := ZHo hql
      have hrr : ∀ k ∈ ZCZ ks q, 0 ≤ k /\ k < (l.length : Int) := fun k hk => q3 k (ZMF hk)
      have hrk : (ZCZ ks q).length ≤ 32768 := by omega
      have hD := fun v => ZNC v ks q hql
      rw [ZKA] at q4
      cases hq : ZB8 V (Ze l (ZCZ ks q)) with
      | true =>
       rw [if_pos hq] at q4
       have hk2 : (if ZB8 V (Ze l (ZCZ ks q)) = true then (2 : Int) else 1) = 2 := by rw [hq]; rfl
       ((repeat' (first | (apply WL.opN; exact yF; dsimp only [ZB, z0, z1]) | refine WL.nil ?_ | refine ZA fun Kx hK => ?_ | (refine hK _ _ ?_; clear hK) | refine WC.region ?_ |  (refine WL.callC (hp := []) (hp1 := []) (caps := []) (ZDk ks (by omega)) Tryz.call45 OpD.f (by (exact aD)) ?_; rintro d' hp2 ⟨vc, rfl, rfl⟩; dsimp only [ZB, z0, z1, List.cons_append, List.nil_append]) |  (refine WL.callC (hp := []) (hp1 := [ZS vc tI RI ks]) (caps := []) (hD vc) Tryz.call44 OpD.f (ArgsD.cons (OpD.t rfl) (ArgsD.cons (OpD.tle rfl (ZAk hqi)) (ArgsD.cons (OpD.tle rfl (ZAk (by omega))) ArgsD.nil))) ?_; rintro d' hp2 ⟨vd, rfl, rfl⟩; dsimp only [ZB, z0, z1, List.cons_append, List.nil_append]; refine ZCQ (s := 49) rfl ?_; dsimp only [z0, z1]) | (apply WL.opN; (focus ((first | (refine SY.mono (d' := dI 2) (ZEX (x := (⟨ZCZ ks q, hrr, hrk⟩ : ZMU l)) (OpD.t rfl) (ArgsD.cons (OpD.t rfl) ArgsD.nil)) (ZAk hk2)) | ((first | apply SY.move | apply SY.assign | apply SY.lss | apply SY.geq | apply SY.eql | apply SY.neq) <;> (exact oD)) | ((first | apply SY.add | apply SY.sub) <;> first | exact oD | omega) | fail); all_goals infer_instance)); dsimp only [ZB, z0, z1]) | (apply ZC; (exact oD); all_goals (intro h; try exact xD)) | refine WC.skip ?_ | refine WC.block ?_ | refine ThenD.n ?_)); all_goals (first | ((repeat clear hK); (repeat clear Kx))))
       all_goals try (exfalso; first | contradiction | omega)
       (refine ⟨(q, ZCZ ks q), ?_, by first | omega | (simp only; omega), rfl, ?_⟩; rotate_left; ((try dsimp only [ZX, z0, z1]); repeat (first | exact LeF.nil | refine ZG (k := ?_))); (try dsimp only))
       exact ⟨by omega, hrk, hrr, q4⟩
      | false =>
       rw [if_neg (by rw [hq]; decide)] at q4
       have hk2 : (if ZB8 V (Ze l (ZCZ ks q)) = true then (2 : Int) else 1) = 1 := by rw [hq]; rfl
       ((repeat' (first | (apply WL.opN; exact yF; dsimp only [ZB, z0, z1]) | refine WL.nil ?_ | refine ZA fun Kx hK => ?_ | (refine hK _ _ ?_; clear hK) | refine WC.region ?_ |  (refine WL.callC (hp := []) (hp1 := []) (caps := []) (ZDk ks (by omega)) Tryz.call45 OpD.f (by (exact aD)) ?_; rintro d' hp2 ⟨vc, rfl, rfl⟩; dsimp only [ZB, z0, z1, List.cons_append, List.nil_append]) |  (refine WL.callC (hp := []) (hp1 := [ZS vc tI RI ks]) (caps := []) (hD vc) Tryz.call44 OpD.f (ArgsD.cons (OpD.t rfl) (ArgsD.cons (OpD.tle rfl (ZAk hqi)) (ArgsD.cons (OpD.tle rfl (ZAk (by omega))) ArgsD.nil))) ?_; rintro d' hp2 ⟨vd, rfl, rfl⟩; dsimp only [ZB, z0, z1, List.cons_append, List.nil_append]; refine ZCQ (s := 49) rfl ?_; dsimp only [z0, z1]) | (apply WL.opN; (focus ((first | (refine SY.mono (d' := dI 1) (ZEX (x := (⟨ZCZ ks q, hrr, hrk⟩ : ZMU l)) (OpD.t rfl) (ArgsD.cons (OpD.t rfl) ArgsD.nil)) (ZAk hk2)) | ((first | apply SY.move | apply SY.assign | apply SY.lss | apply SY.geq | apply SY.eql | apply SY.neq) <;> (exact oD)) | ((first | apply SY.add | apply SY.sub) <;> first | exact oD | omega) | fail); all_goals infer_instance)); dsimp only [ZB, z0, z1]) | (apply ZC; (exact oD); all_goals (intro h; try exact xD)) | refine WC.skip ?_ | refine WC.block ?_ | refine ThenD.n ?_)); all_goals (first | ((repeat clear hK); (repeat clear Kx))))
       all_goals try (exfalso; first | contradiction | omega)
       (refine ⟨(q, ks), ?_, by first | omega | (simp only; omega), rfl, ?_⟩; rotate_left; ((try dsimp only [ZX, z0, z1]); repeat (first | exact LeF.nil | refine ZG (k := ?_))); (try dsimp only))
       exact ⟨by omega, q2, q3, q4⟩
end
end Go.Proofs.YtjmignmnlpamjaaGreat
