/- Part 35: walks by contracts, and plain laws. -/
import Derived.Test.YtpiidgcljlalmaaVa26
import Derived.Test.YtpiidgcljlalmaaVa34
set_option linter.unusedVariables false
set_option linter.unusedSimpArgs false
set_option linter.unusedSectionVars false
namespace Go.Proofs.Ytpiidgcljlalmaa
open Go.RowKit
open S43 (SS up RS GInv beginS startS addS backS)
section
variable {P : Program} {f : FuncId} {fn : Func} {c : Code} {ds : List Dat} {hp1 : List HObj}
theorem results_tmp4 {fn : Func} {t u v x : Tmp} (h : fn.results = #[.tmp t, .tmp u, .tmp v, .tmp x]) (tmps : Array Value) (w : World) : (results fn tmps).run P w = .ok (.tuple #[tmps.getD t undef, tmps.getD u undef, tmps.getD v undef, tmps.getD x undef]) w := by
  simp [results, h]
def fin4 (t u v x : Nat) (K : Dat → Dat → Dat → Dat → Prop) (hp : List HObj) : Post := fun e f q => (match e with | .normal | .ret => True | _ => False) ∧ ∃ d2 d3 d4 d5 e2 e3 e4 e5 : Dat, f[t]? = some d2 ∧ f[u]? = some d3 ∧ f[v]? = some d4 ∧ f[x]? = some d5 ∧ d2.le e2 ∧ d3.le e3 ∧ d4.le e4 ∧ d5.le e5 ∧ (∃ junk, q = junk ++ hp) ∧ K e2 e3 e4 e5
theorem CallC.intro4 {t u v x : Nat} {K : Dat → Dat → Dat → Dat → Prop} (hf : P.funcs[f]? = some fn) (hb : fn.body = some c) (hr : fn.results = #[.tmp t, .tmp u, .tmp v, .tmp x])
    (h : ∀ hp, WC P (fin4 t u v x K hp) c (ds ++ List.replicate (fn.ntmps - ds.length) (dX undef)) (hp1 ++ hp)) : CallC P f ds hp1 (fun d hp2 => hp2 = [] ∧ ∃ e2 e3 e4 e5, d = dT [e2, e3, e4, e5] ∧ K e2 e3 e4 e5) := ⟨fun P0 B w0 hp vs W hh hl hv => by
  refine calls_of_wp hf hb ?_
  have hf0 := fr_enter (m := fn.ntmps - ds.length) hl hv
  have hsz : vs.toArray.size = ds.length := by simp [hl]
  rw [hsz]
  refine Code.wp_mono (fun e a' w' ⟨f', p', q, hh', hf'⟩ => ?_) ((h hp).on hh hf0)
  obtain ⟨hx, d2, d3, d4, d5, e2, e3, e4, e5, h2, h3, h4, h5, l2, l3, l4, l5, ⟨junk, rfl⟩, hk'⟩ := q
  have hw : ∀ k, Imm P0 B (junk ++ hp) k → Imm P0 B ([] ++ hp) k := fun k hk => ⟨hk.1, fun o ho => hk.2 o (List.mem_append.2 (.inr ho))⟩
  have g2 := e2.weak (l2 _ _ _ (hf'.rd t _ h2)) hw
  have g3 := e3.weak (l3 _ _ _ (hf'.rd u _ h3)) hw
  have g4 := e4.weak (l4 _ _ _ (hf'.rd v _ h4)) hw
  have g5 := e5.weak (l5 _ _ _ (hf'.rd x _ h5)) hw
  have hT : (dT [e2, e3, e4, e5]).rd (Imm P0 B ([] ++ hp)) w' (.tuple #[a'.tmps.getD t undef, a'.tmps.getD u undef, a'.tmps.getD v undef, a'.tmps.getD x undef]) := ⟨[_, _, _, _], rfl, rfl, fun i e y he hy => by
    match i, he, hy with
    | 0, he, hy => cases he; cases hy; exact g2
    | 1, he, hy => cases he; cases hy; exact g3
    | 2, he, hy => cases he; cases hy; exact g4
    | 3, he, hy => cases he; cases hy; exact g5⟩
  have hh3 : Hp P0 B _ ([] ++ hp) w' := Hp.drops junk _ hh'
  cases e with
  | normal => exact ⟨hf'.defers, _, results_tmp4 hr _ _, _, _, [], rfl, ⟨rfl, e2, e3, e4, e5, rfl, hk'⟩, hh3, hT⟩
  | ret => exact ⟨hf'.defers, _, results_tmp4 hr _ _, _, _, [], rfl, ⟨rfl, e2, e3, e4, e5, rfl, hk'⟩, hh3, hT⟩
  | _ => exact hx.elim⟩
end
theorem perm_res {S N H : HObj} {J hp : List HObj} : (S :: (J ++ (N :: H :: hp))).Perm (H :: (J ++ (S :: N :: hp))) :=
  List.perm_middle.symm.trans ((List.Perm.append_left J ((List.Perm.cons S (List.Perm.swap H N hp)).trans (List.Perm.swap H S _))).trans List.perm_middle)
theorem run_z (X : Lay) (V : Nat) (am : List Int) (cls : List S43.Cl) (hV : V ≤ 10) (hA : am.length ≤ 10) (hAs : ∀ x ∈ am, x ≠ 0 ∧ x.natAbs ≤ V) (hcl : cls.length ≤ 1000000) (hw : WfL V cls) (hX : X.cf = 0) :
    CallC Try.prog 48 ([dX (ptrS X), dS Ints am] ++ ([] : List Value).map dX) (runO X V (beginS cls) [] []) (fun d hp2 => ∃ k res lr Y s, d = dT [dI k, dS Ints res] ∧ hp2 = [oS Y V s, oN Y lr] ∧ Y.b = X.b ∧ RunR V am cls k res lr ∧ ∀ c ∈ lr, Srt c) := by
  have hr : ∀ c ∈ cls, (∀ x ∈ c, x ≠ 0 ∧ x.natAbs ≤ V) ∧ c.Pairwise fun x y => x.natAbs ≠ y.natAbs := fun c hc => ⟨(hw c hc).rng, (hw c hc).inc.imp fun h => by omega⟩
  have hG : GInv V am cls ⟨beginS cls, []⟩ := GInv.init hr
  have h := D.run_w X V am cls ⟨beginS cls, []⟩ hV hA hAs hcl hG (by rw [hX]; rfl) (fun c hc => by cases hc) (fun Y r x hg hx hxt => by
    have hb := ginv_bnd hg hV hA hcl
    have hxm := hAs x (List.mem_of_getElem? hx)
    exact blame_c Y V r.s am x (by omega) hg.inv (by omega) hxm.2 (fun y hy => (hAs y hy).2) (by omega))
  refine ⟨fun P0 B w0 hp vs W hh hl hv => ?_⟩
  refine Calls.mono (h.out P0 B w0 hp vs W hh hl hv) fun e' W' ⟨u, d, hp2, he, hk, hh2, hd⟩ => ?_
  obtain ⟨v, v', q, hq2, rfl, rfl, Y, s, lr, k, res, rs, vT, vB, hvk, hbx, rfl, rfl, hrs, hRR, hSS⟩ := hk
  obtain ⟨ts, rfl, htl, hts⟩ := hd
  obtain ⟨u0, u1, rfl⟩ : ∃ u0 u1, ts = [u0, u1] := by
    match ts, htl with
    | [u0, u1], _ => exact ⟨u0, u1, rfl⟩
  have h0 : u0 = v := hts 0 _ u0 rfl rfl
  have h1 : u1 = v' := hts 1 _ u1 rfl rfl
  rw [hvk] at h0
  subst h0 h1
  obtain ⟨J, hJ⟩ : ∃ J : List HObj, J = oV ({ Y with vT := vT, vB := vB }) (backS s 0) :: oL ({ Y with vT := vT, vB := vB }) (backS s 0) :: oR ({ Y with vT := vT, vB := vB }) (backS s 0) :: oT ({ Y with vT := vT, vB := vB }) (backS s 0) :: oB ({ Y with vT := vT, vB := vB }) (backS s 0) :: oW Y :: oC Y s :: (rowsC Y s ++ rowsW Y V s) := ⟨_, rfl⟩
  have heq : core { Y with vT := vT, vB := vB } V (backS s 0) ++ (oW Y :: oC Y s :: (rowsC Y s ++ (rowsW Y V s ++ (oN Y lr :: rs)))) ++ hp = oS { Y with vT := vT, vB := vB } V (backS s 0) :: (J ++ (oN Y lr :: (rs ++ hp))) := by
    rw [hJ]
    simp only [core, List.append_assoc, List.cons_append, List.nil_append]
  rw [heq] at hh2
  rcases hrs with rfl | ⟨rfl, rfl, rfl⟩
  · obtain ⟨h3, h4⟩ := hh2.perm (perm_res (S := oS { Y with vT := vT, vB := vB } V (backS s 0)) (N := oN Y lr) (H := hRow u1 tI RI res) (J := J) (hp := hp))
    have hk := Own.keep h3
    have hh5 := Hp.drops J _ h3.drop
    exact ⟨_, dT [dI k, dS Ints res], [oS { Y with vT := vT, vB := vB } V (backS s 0), oN Y lr], he, ⟨k, res, lr, { Y with vT := vT, vB := vB }, backS s 0, rfl, rfl, hbx, hRR, hSS⟩, hh5, dT2_rd rfl (Good.weak hk fun j hj => ⟨hj.1, fun o ho => hj.2 o (List.mem_append.2 (.inr ho))⟩)⟩
  · obtain ⟨h3, h4⟩ := hh2.perm (List.perm_middle (a := oS { Y with vT := vT, vB := vB } V (backS s 0)) (l₁ := J) (l₂ := oN Y lr :: hp)).symm
    have hh5 := Hp.drops J _ h3
    exact ⟨_, dT [dI k, dS Ints []], [oS { Y with vT := vT, vB := vB } V (backS s 0), oN Y lr], he, ⟨k, [], lr, { Y with vT := vT, vB := vB }, backS s 0, rfl, rfl, hbx, hRR, hSS⟩, hh5, dT2_rd rfl Arr.nil'⟩
theorem begin_bnd {V : Nat} {l : List S43.Cl} (hV : V ≤ 4096) (hw : WfL V l) (hl : l.length ≤ 1000000) : ∀ i, i ≤ l.length → ((l.take i).foldl addS startS).list.length ≤ 2000000000000 ∧ (∀ x, (((l.take i).foldl addS startS).watch x).length ≤ 2000000000000) ∧ ((l.take i).foldl addS startS).trail.length ≤ 1000000 := fun i hi => by
  obtain ⟨h1, _, _, h4⟩ := S43.begin_ok (V := V) (l := l.take i) fun c hc => ⟨(hw c (List.mem_of_mem_take hc)).rng, (hw c (List.mem_of_mem_take hc)).inc.imp fun h => by omega⟩
  have h5 := h1.toInv0.tlen
  have h6 : (beginS (l.take i)).list.length ≤ l.length := by rw [h4, List.length_take]; omega
  have h7 := h1.toInv0.wlen
  refine ⟨?_, fun x => ?_, ?_⟩
  · show (beginS (l.take i)).list.length ≤ _; omega
  · have := h7 x
    show ((beginS (l.take i)).watch x).length ≤ _; omega
  · show (beginS (l.take i)).trail.length ≤ _; omega
theorem begin_z (V : Nat) (l : List S43.Cl) (hV : V ≤ 4096) (hw : WfL V l) (hl : l.length ≤ 1000000) :
    CallC Try.prog 47 ([dI (V : Int), dS Rows l] ++ ([] : List Value).map dX) [] (fun d hp2 => ∃ X : Lay, X.cf = 0 ∧ d = dX (ptrS X) ∧ hp2 = runO X V (beginS l) [] []) := by
  refine (begin_c V l (by omega) hl (fun c hc => ⟨(hw c hc).rng, ?_⟩) (begin_bnd hV hw hl)).monoK fun d hp2 ⟨X, h1, h2, h3⟩ => ⟨X, h1, h2, ?_⟩
  · have := S43.trail_len (V := V) (hw c hc).rng ((hw c hc).inc.imp fun h => by omega)
    omega
  · rw [h3, full_runO]
set_option linter.unusedSimpArgs false
set_option linter.unusedVariables false
set_option maxHeartbeats 2000000
set_option maxRecDepth 100000
set_option maxHeartbeats 8000000 in
theorem solve_c (V : Nat) (l : List (List Int)) (hV : V ≤ 10) (hck : checkI (V : Int) l = 0) :
    CallC Try.prog 16 ([dS Cls ((V : Int), l)] ++ ([] : List Value).map dX) [] (fun d hp2 => hp2 = [] ∧ ∃ e2 e3 e4 e5, d = dT [e2, e3, e4, e5] ∧ ∃ v m p, e2 = dI v ∧ e3 = dS Ints m ∧ e4 = dS Rows p ∧ e5 = dI 0 ∧ SolveR V l v m p) := by
  obtain ⟨_, _, hll, hcl⟩ := checkI_zero hck
  have hl : WfL V l := (clausesI_iff (by omega)).1 hcl
  have h1 := check43_p (V : Int) l (irr_wf (by omega) hl)
  rw [hck] at h1
  have hb := begin_z V l (by omega) hl (by omega)
  have hr := fun (X : Lay) (hX : X.cf = 0) => run_z X V [] l hV (by simp) (fun x hx => by cases hx) (by omega) hl hX
  refine CallC.intro4 Try.func16 rfl rfl (fun hp => ?_)
  -- @kinds solver.Solve
  simp only [Try.ntmps16, List.length_cons, List.length_nil, List.length_append, List.length_map, Nat.reduceAdd, Nat.reduceSub, List.replicate_succ, List.replicate_zero, List.cons_append, List.nil_append, List.map_cons, List.map_nil, List.append_assoc]
  (repeat' (first |  (refine WC.only 6 (Halt.go ?_)) | (apply WL.opN; exact yF; dsimp only [setD, z0, z1]) | refine WL.nil ?_ | refine WC.seqK fun Kx hK => ?_ | (refine hK _ _ ?_; clear hK) | refine WC.region ?_ |  (refine WL.callC (hp1 := []) (caps := []) hb Try.call47 OpD.f (by (exact aD)) ?_; rintro d' hp2 ⟨X, hX, rfl, rfl⟩; dsimp only [setD, z0, z1]) |  (refine WL.callC (hp1 := runO X V (beginS l) [] []) (caps := []) (hr X hX) Try.call48 OpD.f (ArgsD.cons (OpD.t rfl) (ArgsD.cons ⟨Dat.le_nil⟩ ArgsD.nil)) ?_; rintro d' hp2 ⟨k, res, lr, Y, s, rfl, rfl, hYb, hRR, hSS⟩; dsimp only [setD, z0, z1, List.cons_append, List.nil_append]) | (apply WL.opG; (focus (first | exact wN | (apply SYG.yes; (exact wY); ((first | (apply SY.call (h1) Try.call38; (exact aD)) | ((first | apply SY.move | apply SY.assign | apply SY.lss | apply SY.leq | apply SY.eql | apply SY.neq) <;> (exact oD)) | (apply SY.fldP0 clT; exact OpD.t rfl) | (apply SY.fldP1 clT; exact OpD.t rfl) | (apply SY.extract; (exact oD); rfl) | (apply SY.box; (exact oD); (exact hD)) | fail); all_goals infer_instance)))); dsimp only [setD, z0, z1]) | (apply WC.condN; (exact oD); all_goals (intro h; try exact xD)) | refine WC.skip ?_))
  all_goals try (exfalso; first | contradiction | omega)
  refine ⟨?_⟩
  have hpt : ptrS X = ptrS Y := by unfold ptrS; rw [hYb]
  rw [hpt]
  rcases hRR.is with rfl | rfl
  · have hfin := hRR.solve_yes
    clear hRR hSS
    ((repeat' (first | (apply WL.opN; exact yF; dsimp only [setD, z0, z1]) | refine WL.nil ?_ | refine WC.seqK fun Kx hK => ?_ | (refine hK _ _ ?_; clear hK) | refine WC.region ?_ | (apply WL.opG; (focus (first | exact wN | (apply SYG.yes; (exact wY); ((first | ((first | apply SY.move | apply SY.assign | apply SY.lss | apply SY.leq | apply SY.eql | apply SY.neq) <;> (exact oD)) | fail); all_goals infer_instance)))); dsimp only [setD, z0, z1]) | (apply WC.condD; (exact oD); all_goals (intro h; try exact xD)) | refine WC.ret ?_ | refine WC.block ?_ | refine ThenD.r ?_ | refine InBlockD.r ?_)); all_goals (first | ((repeat clear hK); (repeat clear Kx))))
    all_goals try (exfalso; first | contradiction | omega)
    exact ⟨trivial, _, _, _, _, dI 1, dS Ints res, dS Rows [], dI 0, rfl, rfl, rfl, rfl, Dat.le_refl _, Dat.le_refl _, Dat.le_nil, le_ii rfl, ⟨[_, _], rfl⟩, 1, res, [], rfl, rfl, rfl, rfl, hfin⟩
  · have h24 : (lr.length + 1) * 24 ≤ 140737488355328 := by
      have hlen := hRR.len
      have q2 : 2 ^ (V + (([] : List Int).length + V) + 1) ≤ 2 ^ 21 := Nat.pow_le_pow_right (by decide) (by simp; omega)
      have q3 : (2 : Nat) ^ 21 = 2097152 := by decide
      omega
    have hV20 : (V : Int) ≤ 20 := by omega
    have hfin := hRR.solve_no (by omega) hl hSS
    clear hRR hSS
    obtain ⟨bb, hbb⟩ : ∃ bb : Bool, ∀ {ops : Array Oper} {hp : List HObj} {fr : List Dat} {dst : Option Tmp} {ty : TypeId} {ps : String} {af : Array Edge} {g : Option (Nat × Bool)} {T T2 : TypeId} {x y : Operand}, OpD fr x (dI (lr.length : Int)) → OpD fr y (dI 32768) → SY Try.prog ops hp { dst := dst, op := .binOp .lss T x y T2, type := ty, pos := ps, after := af, guard := g } fr (dB bb) := ⟨_, fun hx hy => SY.lss hx hy⟩
    cases bb
    · ((repeat' (first | (apply WL.opN; exact yF; dsimp only [setD, z0, z1]) | refine WL.nil ?_ | refine WC.seqK fun Kx hK => ?_ | (refine hK _ _ ?_; clear hK) | refine WC.region ?_ |  (refine WL.ofSW (SW.at 1 rfl fun q => SW.app1 elSi (R := Ints) (_gR := inferInstance) (OpD.t rfl) (OpD.t rfl) (by decide) h24) fun vp => ?_; dsimp only [setD, z0, z1]; refine WL.perm (List.Perm.swap _ _ _) (WL.keep1 (s := 49) rfl ?_); dsimp only [z0, z1]) | (apply WL.opG; (focus (first | exact wN | (apply SYG.yes; (exact wY); ((first | (exact SY.nilCk (OpD.t rfl)) | (refine SY.fldS strS (OpD.t rfl) (by decide)) | (apply SY.loadS; (first | exact tyI | exact tySi | exact tySS | exact tyF | exact tyFL | exact tyCos); exact OpD.t rfl; exact mAt 0 rfl; rfl) | (apply SY.lenR; exact OpD.t rfl; exact mAt 1 rfl; exact elSi.unt) | (exact hbb (OpD.t rfl) OpD.i) | (exact SY.build1' elSi (R := Ints) (_gR := inferInstance) (els := [[]]) (ElsD.cn ⟨Dat.le_nil⟩ ElsD.nl) rfl rfl (fun _ => shape_A) (by simp)) | ((first | apply SY.move | apply SY.assign | apply SY.lss | apply SY.leq | apply SY.eql | apply SY.neq) <;> (exact oD)) | (apply SY.load; (exact tD); (exact oD)) | (apply SY.fldP0 clT; exact OpD.t rfl) | (apply SY.fldP1 clT; exact OpD.t rfl) | (apply SY.pickF; (exact oD); (with_reducible rfl); (exact oD)) | fail); all_goals infer_instance)))); dsimp only [setD, z0, z1]) | (apply WC.condD; (exact oD); all_goals (intro h; try exact xD)) | refine WC.ret ?_ | refine WC.block ?_ | refine ThenD.r ?_ | refine InBlockD.r ?_)); all_goals (first | ((repeat clear hK); (repeat clear Kx))))
      all_goals try (exfalso; first | contradiction | omega)
      exact ⟨trivial, _, _, _, _, dI 2, dS Ints [], dS Rows (lr ++ [[]]), dI 0, rfl, rfl, rfl, rfl, Dat.le_refl _, Dat.le_nil, Dat.le_refl _, le_ii rfl, ⟨[_], rfl⟩, 2, [], lr ++ [[]], rfl, rfl, rfl, rfl, hfin⟩
    · ((repeat' (first | (apply WL.opN; exact yF; dsimp only [setD, z0, z1]) | refine WL.nil ?_ | refine WC.seqK fun Kx hK => ?_ | (refine hK _ _ ?_; clear hK) | refine WC.region ?_ |  (refine WL.ofSW (SW.at 1 rfl fun q => SW.app1 elSi (R := Ints) (_gR := inferInstance) (OpD.t rfl) (OpD.t rfl) (by decide) h24) fun vp => ?_; dsimp only [setD, z0, z1]; refine WL.perm (List.Perm.swap _ _ _) (WL.keep1 (s := 49) rfl ?_); dsimp only [z0, z1]) | (apply WL.opG; (focus (first | exact wN | (apply SYG.yes; (exact wY); ((first | (exact SY.nilCk (OpD.t rfl)) | (refine SY.fldS strS (OpD.t rfl) (by decide)) | (apply SY.loadS; (first | exact tyI | exact tySi | exact tySS | exact tyF | exact tyFL | exact tyCos); exact OpD.t rfl; exact mAt 0 rfl; rfl) | (apply SY.lenR; exact OpD.t rfl; exact mAt 1 rfl; exact elSi.unt) | (exact hbb (OpD.t rfl) OpD.i) | (exact SY.build1' elSi (R := Ints) (_gR := inferInstance) (els := [[]]) (ElsD.cn ⟨Dat.le_nil⟩ ElsD.nl) rfl rfl (fun _ => shape_A) (by simp)) | ((first | apply SY.move | apply SY.assign | apply SY.lss | apply SY.leq | apply SY.eql | apply SY.neq) <;> (exact oD)) | (apply SY.pickT; (exact oD); (with_reducible rfl); (exact oD)) | fail); all_goals infer_instance)))); dsimp only [setD, z0, z1]) | (apply WC.condT; (exact oD); (with_reducible rfl)) | (apply WC.condD; (exact oD); all_goals (intro h; try exact xD)) | refine WC.ret ?_ | refine WC.block ?_ | refine ThenD.r ?_ | refine InBlockD.r ?_)); all_goals (first | ((repeat clear hK); (repeat clear Kx))))
      all_goals try (exfalso; first | contradiction | omega)
      exact ⟨trivial, _, _, _, _, dI 2, dS Ints [], dS Rows (lr ++ [[]]), dI 0, rfl, rfl, rfl, rfl, Dat.le_refl _, Dat.le_nil, Dat.le_refl _, le_ii rfl, ⟨[_], rfl⟩, 2, [], lr ++ [[]], rfl, rfl, rfl, rfl, hfin⟩
end Go.Proofs.Ytpiidgcljlalmaa
namespace Go.Proofs.Ytpiidgcljlalmaa
open Go.RowKit
def ArrF {α : Type} (R : Rel α) : Rel (List α) := fun P w v xs => Arr R P w v xs ∧ ∃ a, v = .slice (some a) xs.length xs.length
instance {α : Type} (R : Rel α) [Good R] : Good (ArrF R) where
  weak := fun ⟨h, k⟩ q => ⟨Good.weak (R := Arr R) h q, k⟩
  move := fun ⟨h, k⟩ q => ⟨Good.move (R := Arr R) h q, k⟩
  bound := fun ⟨h, k⟩ => ⟨Good.bound (R := Arr R) h, k⟩
theorem le_F {α : Type} {R : Rel α} {_gR : Good R} {xs : List α} : (dS (ArrF R) xs).le (dS (Arr R) xs) := fun _ _ _ h => h.1
section
variable {P : Program} {ops : Array Oper} {hp : List HObj} {o : Oper} {fr : List Dat} {d : Dat} {Q : Post} {rest : List Oper}
variable {dst : Option Tmp} {ty : TypeId} {ps : String} {af : Array Edge} {g : Option (Nat × Bool)}
variable {t e : TypeId} {bytes : Nat} {z : Value} {ag : Bool}
theorem SY.full1 (E : ElT P t e 1 z bytes ag) {α : Type} {R : Rel α} {_gR : Good R} {len : Nat} {parts : Array (Nat × Operand)} {as1 : List α} (hx : ElsD fr R (parts.toList.map Prod.snd) as1) (hparts : parts.toList = ((parts.toList.map Prod.snd).zipIdx).map (fun p => (p.2, p.1))) (hl : len = as1.length) (hs : ∀ a, (dS R a).Shape 1 false) (hsm : as1.length * 1 ≤ 16777216) :
    SY P ops hp { dst := dst, op := .buildSlice t len parts, type := ty, pos := ps, after := af, guard := g } fr (dS (ArrF R) as1) := SY.valE fun {P0 B w0 w a} hh ho => by
  obtain ⟨css, hr, hcl, hcn, hel⟩ := build_core E hx hl hparts hs hsm hh ho
  refine ⟨_, _, hr, Ext.of_alloc _ _, ⟨some ⟨w.heap.size, 0, none⟩, as1.length, rfl, Nat.le_refl _, by simp only [maxLen]; omega, fun k hk => ?_⟩, _, rfl⟩
  have hkc : k < css.length := by omega
  obtain ⟨u, hu, hR⟩ := hel k css[k] as1[k] (List.getElem?_eq_getElem hkc) (List.getElem?_eq_getElem hk)
  simp only [Bool.false_eq_true, if_false] at hu
  have hm := hcn css[k] (List.getElem_mem hkc)
  have h1 : u.oneCell' = true := hm.2 u (by rw [hu]; simp)
  refine ⟨u, w.heap.size, 0, Good.ext (R := R) hR (Ext.of_alloc _ _), h1, rfl, hh.fresh (Nat.le_refl _), ?_⟩
  rw [cell_of_row _ _ _ _ _ _ (alloc_get w _), Nat.zero_add]
  have := flatten_get (k := k) (j := 0) (c := u) (fun u hu => (hcn u hu).1) hkc (by rw [hu]; rfl)
  simpa using this
theorem arr_news {α : Type} {R : Rel α} {I : Nat → Prop} {w : World} {a : Addr} {cap : Nat} {xs : List α} (h : Arr R I w (.slice (some a) xs.length cap) xs) : ∃ news : List Value, news.length = xs.length ∧ (∀ j u, news[j]? = some u → w.cell? (a.add j) = some u) ∧ (∀ u ∈ news, u.oneCell' = true) ∧
    ∀ (k : Nat) (h : k < news.length) (h' : k < xs.length), R I w news[k] xs[k] := by
  obtain ⟨ad, cap', hv, c1, c2, c3⟩ := h
  cases hv
  have hch : ∀ k : Nat, ∃ u : Value, ∀ h : k < xs.length, w.cell? (a.add k) = some u ∧ u.oneCell' = true ∧ R I w u xs[k] := fun k => by
    by_cases hk : k < xs.length
    · obtain ⟨u, b, off, r1, r2, r3, r4, r5⟩ := c3 k hk
      cases r3
      exact ⟨u, fun _ => ⟨by rw [Addr.add_lit]; exact r5, r2, r1⟩⟩
    · exact ⟨undef, fun h => absurd h hk⟩
  obtain ⟨f, hfch⟩ := Classical.axiomOfChoice hch
  refine ⟨(List.range xs.length).map f, by simp, fun j u hu => ?_, fun u hu => ?_, fun k h1 h2 => ?_⟩
  · obtain ⟨hjl, hju⟩ := List.getElem?_eq_some_iff.1 hu
    simp at hjl hju
    subst hju
    exact (hfch j hjl).1
  · simp only [List.mem_map, List.mem_range] at hu
    obtain ⟨j, hj, rfl⟩ := hu
    exact (hfch j hj).2.1
  · simp only [List.getElem_map, List.getElem_range]
    exact (hfch k h2).2.2
theorem SY.appF {s y : Operand} (E : ElT P t e 1 z bytes ag) {α : Type} {R : Rel α} {_gR : Good R} {xs ys : List α} (hs : OpD fr s (dS (ArrF R) xs)) (hy : OpD fr y (dS (Arr R) ys)) (hby : 0 < bytes) (hlen : (xs.length + ys.length) * bytes ≤ 140737488355328) :
    SY P ops hp { dst := dst, op := .call { callee := .builtin .append, args := #[s, y], argTypes := #[t, t] }, type := ty, pos := ps, after := af, guard := g } fr (dS (Arr R) (xs ++ ys)) := SY.valE fun {P0 B w0 w a} hh ho => by
  obtain ⟨h1, a1, hv1⟩ := hs.get (by simp [Op.operands, Call.operands]) ho
  have h2 : Arr R _ w (a.eval y) ys := hy.get (by simp [Op.operands, Call.operands]) ho
  obtain ⟨i, hi, hz, hsz, hb⟩ := info_parts E.info
  have hm : xs.length + ys.length ≤ maxLen := by
    have : (xs.length + ys.length) * 1 ≤ (xs.length + ys.length) * bytes := Nat.mul_le_mul_left _ hby
    simp only [maxLen]; omega
  have h1' := h1
  rw [hv1] at h1'
  have fin : ∀ v' w', (Builtin.append_ #[t, t] ty #[a.eval s, a.eval y]).run P w = .ok v' w' → Ext w w' → Arr R (Imm P0 B hp) w' v' (xs ++ ys) → ∃ v w', (execOp a.eval { dst := dst, op := .call { callee := .builtin .append, args := #[s, y], argTypes := #[t, t] }, type := ty, pos := ps, after := af, guard := g }).run P w = .ok (.value v) w' ∧ Ext w w' ∧ (dS (Arr R) (xs ++ ys)).rd (Imm P0 B hp) w' v := by
    intro v' w' hr hx hd
    refine ⟨v', w', ?_, hx, hd⟩
    unfold execOp
    simp only [resolve, invoke, builtin, List.map_toArray, List.map_cons, List.map_nil, Sem.run_bind, Sem.run_pure, Result.andThen_ok, hr]
  have h2' := h2
  obtain ⟨ad2, cap2, hv2, q1, q2, q3⟩ := h2
  by_cases h0 : ys = []
  · subst h0
    have hsrc : Src P i.size t (a.eval y) 0 [] w := by
      rw [hv2]
      cases ad2 with
      | none => exact Src.ofNil w E.und cap2
      | some ad2 => exact Src.ofSlice w E.und ad2 0 cap2 [] (by simp) (fun j u h => by simp at h) (fun u h => by simp at h)
    refine fin (a.eval s) w ?_ (Ext.refl _) (by rw [List.append_nil]; exact h1)
    have := run_append_nothing (P := P) w t t ty e i E.und hi (some a1) xs.length xs.length (Nat.le_refl _) (a.eval y) hsrc
    rw [hv1]; exact this
  · cases ad2 with
    | none =>
      obtain ⟨_, _, _, _, _, hc, _⟩ := q3 0 (List.length_pos_iff.2 h0)
      cases hc
    | some ad2 =>
      rw [hv2] at h2'
      obtain ⟨o1, ol, oc, os, oe⟩ := arr_news h1'
      obtain ⟨n1, nl, nc, ns, ne⟩ := arr_news h2'
      have hpos : 0 < ys.length := List.length_pos_iff.2 h0
      obtain ⟨v', w', hr, hown, hgr⟩ := run_append_arg_grows (P := P) w t ty e i z 1 bytes E.und hi hz hsz hb E.zs Nat.one_pos a1 xs.length xs.length o1 (by rw [ol, Nat.mul_one]) oc ad2 ys.length cap2 n1 (by rw [nl, Nat.mul_one]) nc (by omega) hm hlen
      have hx : Ext w w' := ⟨hgr.os, hgr.tape, hgr.output, hgr.size, fun k hk => hgr.block k hk (by simp)⟩
      refine fin v' w' (by rw [hv1, hv2]; exact hr) hx ?_
      obtain ⟨a3, cap3, hv3, d1, d2, d3⟩ := ownsRow_shape hown
      refine ⟨a3, cap3, by rw [List.length_append]; exact hv3, by rw [List.length_append]; exact d1, d2, fun k hk => ?_⟩
      have hkl : k < (o1 ++ n1).length := by rw [List.length_append] at hk ⊢; omega
      have h1c : (o1 ++ n1)[k].oneCell' = true := by
        rcases List.mem_append.1 (List.getElem_mem hkl) with h | h
        · exact os _ h
        · exact ns _ h
      obtain ⟨gb, ha, _, hB, hc'⟩ := d3 k (o1 ++ n1)[k] (List.getElem?_eq_getElem hkl)
      have hR : R (Imm P0 B hp) w (o1 ++ n1)[k] (xs ++ ys)[k] := by
        by_cases hk1 : k < o1.length
        · rw [List.getElem_append_left hk1, List.getElem_append_left (by omega)]
          exact oe k hk1 (by omega)
        · rw [List.getElem_append_right (by omega), List.getElem_append_right (by omega)]
          have := ne (k - o1.length) (by rw [List.length_append] at hkl; omega) (by rw [List.length_append] at hk; omega)
          have e3 : k - o1.length = k - xs.length := by rw [ol]
          simp only [e3] at this ⊢
          exact this
      exact ⟨(o1 ++ n1)[k], gb, 0, Good.ext (R := R) hR hx, h1c, ha, hh.fresh hB, by rw [Nat.zero_add]; exact hc'⟩
end
section
variable {P : Program} {ops : Array Oper} {hp : List HObj} {fr : List Dat} {d : Dat} {Q : Post} {rest : List Oper}
variable {dst : Option Tmp} {ty : TypeId} {ps : String} {af : Array Edge} {g : Option (Nat × Bool)} {T : TypeId} {b k : Nat} {ds : List Dat}
theorem agg_le {d0 d1 : Dat} {V : Int} {l : List (List Int)} (h0 : d0.le (dI V)) (h1 : d1.le (dS Rows l)) : (dAgg [d0, d1]).le (dS Cls (V, l)) := fun I w v h => by
  obtain ⟨cs, rfl, hl, hc, hd⟩ := h
  match cs, hl with
  | [u0, u1], _ =>
    exact ⟨u0, u1, rfl, hc u0 (by simp), hc u1 (by simp), h0 _ _ _ (hd 0 u0 _ rfl rfl), h1 _ _ _ (hd 1 u1 _ rfl rfl)⟩
theorem SY.mkA {x y : Operand} {n : Int} {d1 : Dat} (hd1 : ∀ I w v, d1.rd I w v → ∃ a m c, v = .slice a m c) (hx : OpD fr x (dI n)) (hy : OpD fr y d1) : SY Try.prog ops hp { dst := dst, op := .build 24 #[(0, x), (1, y)], type := ty, pos := ps, after := af, guard := g } fr (dAgg [dI n, d1]) := SY.val fun {I w a} ho => by
  have h1 : a.eval x = .int .i64 n := hx.get (by simp [Op.operands]) ho
  have h2 := hy.get (by simp [Op.operands]) ho
  obtain ⟨ad', m', c', hv'⟩ := hd1 _ _ _ h2
  rw [hv'] at h2
  refine ⟨.agg #[.int .i64 n, .slice ad' m' c'], ?_, [.int .i64 n, .slice ad' m' c'], rfl, rfl, fun c hc => ?_, fun k c e hc he => ?_⟩
  · unfold execOp
    simp only [List.map_toArray, List.map_cons, List.map_nil, h1, hv', Sem.run_bind, clT.mkp, Result.andThen_ok, Sem.run_pure]
  · simp at hc; rcases hc with rfl | rfl <;> rfl
  · match k, hc, he with
    | 0, hc, he => cases hc; cases he; rfl
    | 1, hc, he => cases hc; cases he; exact h2
theorem mk_one (n : Int) (w : World) : (Instr.build 24 #[(0, .int .i64 n)]).run Try.prog w = .ok (.agg #[.int .i64 n, .slice none 0 0]) w := by go_simp
theorem SY.mkA1 {x : Operand} {n : Int} (hx : OpD fr x (dI n)) : SY Try.prog ops hp { dst := dst, op := .build 24 #[(0, x)], type := ty, pos := ps, after := af, guard := g } fr (dAgg [dI n, dX (.slice none 0 0)]) := SY.val fun {I w a} ho => by
  have h1 : a.eval x = .int .i64 n := hx.get (by simp [Op.operands]) ho
  refine ⟨.agg #[.int .i64 n, .slice none 0 0], ?_, [.int .i64 n, .slice none 0 0], rfl, rfl, fun c hc => ?_, fun k c e hc he => ?_⟩
  · unfold execOp
    simp only [List.map_toArray, List.map_cons, List.map_nil, h1, Sem.run_bind, mk_one, Result.andThen_ok, Sem.run_pure]
  · simp at hc; rcases hc with rfl | rfl <;> rfl
  · match k, hc, he with
    | 0, hc, he => cases hc; cases he; rfl
    | 1, hc, he => cases hc; cases he; rfl
theorem is_A {α : Type} {R : Rel α} [Good R] {xs : List α} : ∀ I w v, (dS (Arr R) xs).rd I w v → ∃ a m c, v = .slice a m c := fun _ _ _ h => by
  obtain ⟨a, c, rfl, _⟩ := (h : Arr R _ _ _ _)
  exact ⟨_, _, _, rfl⟩
theorem is_AF {α : Type} {R : Rel α} [Good R] {xs : List α} : ∀ I w v, (dS (ArrF R) xs).rd I w v → ∃ a m c, v = .slice a m c := fun I w v h => is_A I w v (h : ArrF R I w v xs).1
theorem strC : StrT Try.prog 24 2 := ⟨fun b off i w hi => by
  match i, hi with
  | 0, _ => go_simp
  | 1, _ => go_simp⟩
theorem keepS_hp {P0 : Nat → Prop} {B : Nat} {w0 w : World} {α : Type} {R : Rel α} {_gR : Good R} {v : Value} {xs : List α} {eT : TypeId} (hk : ds[k]? = some (dX v)) (hh : Hp P0 B w0 (hStr b T ds :: hRow v eT R xs :: hp) w) : Hp P0 B w0 (hStr b T (ds.set k (dS (Arr R) xs)) :: hp) w ∧ ∀ (d : Dat) (u : Value), d.rd (Imm P0 B (hStr b T ds :: hRow v eT R xs :: hp)) w u → d.rd (Imm P0 B (hStr b T (ds.set k (dS (Arr R) xs)) :: hp)) w u := by
  obtain ⟨hh1, hI1⟩ := hh.perm (List.Perm.swap _ _ _)
  have hA : Arr R (Imm P0 B (hStr b T ds :: hp)) w v xs := Own.keep hh1
  have hh2 := hh1.drop
  have hgr : w.grownBy w (hStr b T ds).blk := ⟨rfl, rfl, rfl, Nat.le_refl _, fun _ _ _ => rfl⟩
  obtain ⟨cs, c1, c2, c3, c4⟩ := hh2.ok (hStr b T ds) (by simp)
  have hkl := (List.getElem?_eq_some_iff.1 hk).1
  have hkc : k < cs.length := by omega
  have hv : cs[k] = v := c4 k _ _ (List.getElem?_eq_getElem hkc) hk
  have hok : (hStr b T (ds.set k (dS (Arr R) xs))).ok (fun j => Imm P0 B (hStr b T ds :: hp) j ∧ j < w.heap.size) w := by
    refine ⟨cs, c1, by simp [c2], c3, fun j c e hc he => ?_⟩
    rw [List.getElem?_set] at he
    by_cases hjk : k = j
    · rw [if_pos hjk, if_pos hkl] at he
      cases he
      subst hjk
      rw [List.getElem?_eq_getElem hkc] at hc
      cases hc
      rw [hv]
      exact (dS (Arr R) xs).bound hA
    · rw [if_neg hjk] at he
      exact e.bound (c4 j c e hc he)
  exact ⟨hh2.write hgr (.inl rfl) hok, fun d u hd => Hp.written (o := hStr b T ds) (o' := hStr b T (ds.set k (dS (Arr R) xs))) hgr (.inl rfl) (d.weak hd fun j hj => Imm.sub j ((hI1 j).1 hj))⟩
theorem WC.keepS1 {c : Code} {α : Type} {R : Rel α} {_gR : Good R} {v : Value} {xs : List α} {eT : TypeId} (hk : ds[k]? = some (dX v)) (h : WC P Q c fr (hStr b T (ds.set k (dS (Arr R) xs)) :: hp)) : WC P Q c fr (hStr b T ds :: hRow v eT R xs :: hp) := WC.of fun P0 B w0 w a hh hf => by
  obtain ⟨h1, h2⟩ := keepS_hp hk hh
  exact h.on h1 (hf.mono fun d u hd => h2 d u hd)
theorem WL.keepS1 {α : Type} {R : Rel α} {_gR : Good R} {v : Value} {xs : List α} {eT : TypeId} (hk : ds[k]? = some (dX v)) (h : WL P ops Q rest fr (hStr b T (ds.set k (dS (Arr R) xs)) :: hp)) : WL P ops Q rest fr (hStr b T ds :: hRow v eT R xs :: hp) := WL.of fun P0 B w0 w a hh hf => by
  obtain ⟨h1, h2⟩ := keepS_hp hk hh
  exact h.on h1 (hf.mono fun d u hd => h2 d u hd)
theorem SY.ixE1 {x i : Operand} {t e : TypeId} {z : Value} {bytes : Nat} (E : ElT P t e 1 z bytes false) {α : Type} {R : Rel α} {_gR : Good R} {xs : List α} {k : Nat} {v : α} (hk : k < xs.length) (hv : xs[k] = v) (hx : OpD fr x (dS (Arr R) xs)) (hi : OpD fr i (dI (k : Int))) :
    SY P ops hp { dst := dst, op := .indexAddr t x i, type := ty, pos := ps, after := af, guard := g } fr (dP 1 false (dS R v)) := hv ▸ SY.ix E hx hi hk
end
end Go.Proofs.Ytpiidgcljlalmaa
