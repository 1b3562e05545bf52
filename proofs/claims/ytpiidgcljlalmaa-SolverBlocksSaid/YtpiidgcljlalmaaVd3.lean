/- Part 3: walks by contracts, and plain laws. -/
import Derived.Test.YtpiidgcljlalmaaVd2
set_option linter.unusedVariables false
set_option linter.unusedSimpArgs false
set_option linter.unusedSectionVars false
namespace Go.Proofs.Ytpiidgcljlalmaa
open Go.RowKit
theorem run_loadVarC {P : Program} {T : TypeId} {n : Nat} {agg : Bool} (T' : TyI P T n agg) {I : Nat → Prop} {w : World} {b off : Nat} {u : Value} (h : Cells I w b off n agg u) : (loadVar T ⟨b, off, none⟩).run P w = .ok u w := by
  have h1 := run_loadC T' h
  simpa [Instr.loadAt, Instr.sureAddr] using h1
theorem results_cellC {P : Program} {fn : Func} {t : Tmp} {T : TypeId} {n : Nat} {agg : Bool} (T' : TyI P T n agg) (hr : fn.results = #[.cell t T]) {I : Nat → Prop} {w : World} {tmps : Array Value} {b off : Nat} {u : Value} (hp : tmps.getD t undef = .pointer (some ⟨b, off, none⟩)) (h : Cells I w b off n agg u) : (results fn tmps).run P w = .ok u w := by
  have h1 := run_loadVarC T' h
  have hp' : tmps[t]?.getD undef = .pointer (some ⟨b, off, none⟩) := by simpa using hp
  simp [results, hr, hp', asAddr, h1]
theorem results_cellC2 {P : Program} {fn : Func} {t t2 : Tmp} {T : TypeId} {n : Nat} {agg : Bool} (T' : TyI P T n agg) (hr : fn.results = #[.cell t T, .tmp t2]) {I : Nat → Prop} {w : World} {tmps : Array Value} {b off : Nat} {u : Value} (hp : tmps.getD t undef = .pointer (some ⟨b, off, none⟩)) (h : Cells I w b off n agg u) : (results fn tmps).run P w = .ok (.tuple #[u, tmps.getD t2 undef]) w := by
  have h1 := run_loadVarC T' h
  have hp' : tmps[t]?.getD undef = .pointer (some ⟨b, off, none⟩) := by simpa using hp
  simp [results, hr, hp', asAddr, h1]
section
variable {P : Program} {hp : List HObj} {d : Dat}
def finC1 (t : Nat) (n : Nat) (agg : Bool) (res : Dat) : Post := fun e fr hp => (match e with | .normal | .ret => True | _ => False) ∧ ∃ d, fr[t]? = some (dP n agg d) ∧ FinD hp d res
def finC2 (t u : Nat) (n : Nat) (agg : Bool) (r s : Dat) : Post := fun e fr hp => (match e with | .normal | .ret => True | _ => False) ∧ (∃ d, fr[t]? = some (dP n agg d) ∧ FinD hp d r) ∧ ∃ d, fr[u]? = some d ∧ FinD hp d s
theorem Fn.introC1 {f : FuncId} {fn : Func} {c : Code} {args : List Dat} {res : Dat} {t : Tmp} {T : TypeId} {n : Nat} {agg : Bool} (T' : TyI P T n agg) (hf : P.funcs[f]? = some fn) (hb : fn.body = some c) (hr : fn.results = #[.cell t T])
    (h : WC P (finC1 t n agg res) c (args ++ List.replicate (fn.ntmps - args.length) (dX undef)) []) : Fn P f args res :=
  Fn.intro hf hb (fun e fr hp q => by
    obtain ⟨he, d, hd, hfin⟩ := q
    refine ⟨by cases e <;> simp_all, fun {P0 B w0 w a} hh hf' => ?_⟩
    obtain ⟨b, off, u, h1, h2, h3⟩ := hf'.rd t _ hd
    exact ⟨u, results_cellC T' hr h1 h2, hfin.out hh h3⟩) h
theorem Fn.introC2 {f : FuncId} {fn : Func} {c : Code} {args : List Dat} {r s : Dat} {t t2 : Tmp} {T : TypeId} {n : Nat} {agg : Bool} (T' : TyI P T n agg) (hf : P.funcs[f]? = some fn) (hb : fn.body = some c) (hr : fn.results = #[.cell t T, .tmp t2])
    (h : WC P (finC2 t t2 n agg r s) c (args ++ List.replicate (fn.ntmps - args.length) (dX undef)) []) : Fn P f args (dT [r, s]) :=
  Fn.intro hf hb (fun e fr hp q => by
    obtain ⟨he, ⟨d, hd, hfin⟩, d', hd', hfin'⟩ := q
    refine ⟨by cases e <;> simp_all, fun {P0 B w0 w a} hh hf' => ?_⟩
    obtain ⟨b, off, u, h1, h2, h3⟩ := hf'.rd t _ hd
    refine ⟨_, results_cellC2 T' hr h1 h2, [u, a.tmps.getD t2 undef], rfl, rfl, fun i e x he hx => ?_⟩
    match i, he, hx with
    | 0, he, hx => cases he; cases hx; exact hfin.out hh h3
    | 1, he, hx => cases he; cases hx; exact hfin'.out hh (hf'.rd t2 d' hd')) h
end
end Go.Proofs.Ytpiidgcljlalmaa
namespace Go.Proofs.Ytpiidgcljlalmaa
open Go.RowKit
open S43 (up up_eq up_ne)
def asF (a : List Int) : Nat → Int := a.foldl (fun f x => up f x.natAbs x) (fun _ => 0)
theorem asF_snoc (a : List Int) (x : Int) : asF (a ++ [x]) = up (asF a) x.natAbs x := by unfold asF; rw [List.foldl_append]; rfl
structure Asn (V : Nat) (a : List Int) : Prop where
  rng : ∀ x ∈ a, x ≠ 0 ∧ x.natAbs ≤ V
  dis : a.Pairwise fun x y => x.natAbs ≠ y.natAbs
theorem Asn.nil (V : Nat) : Asn V [] := ⟨(fun x hx => by cases hx), List.Pairwise.nil⟩
theorem Asn.snoc {V : Nat} {a : List Int} {x : Int} (h : Asn V a) (hx : x ≠ 0 ∧ x.natAbs ≤ V) (h1 : x ∉ a) (h2 : -x ∉ a) : Asn V (a ++ [x]) := ⟨fun y hy => by
    rcases List.mem_append.1 hy with hy | hy
    · exact h.rng y hy
    · rw [List.mem_singleton.1 hy]; exact hx, by
    refine List.pairwise_append.2 ⟨h.dis, List.pairwise_singleton _ _, fun y hy z hz e => ?_⟩
    rw [List.mem_singleton.1 hz] at e
    rcases (by omega : y = x ∨ y = -x) with rfl | rfl
    · exact h1 hy
    · exact h2 hy⟩
theorem Asn.front {V : Nat} {a : List Int} {x : Int} (h : Asn V (a ++ [x])) : Asn V a := ⟨fun y hy => h.rng y (List.mem_append.2 (.inl hy)), (List.pairwise_append.1 h.dis).1⟩
theorem asF_spec {V : Nat} : ∀ (n : Nat) (a : List Int), a.length = n → Asn V a → ∀ y : Int, y ≠ 0 → (asF a y.natAbs = y ↔ y ∈ a) ∧ (asF a y.natAbs = 0 ↔ y ∉ a ∧ -y ∉ a) := by
  intro n
  induction n with
  | zero =>
    intro a ha _ y hy
    have : a = [] := List.length_eq_zero_iff.1 ha
    subst this
    simp only [asF, List.foldl_nil, List.not_mem_nil, not_false_eq_true, and_self, iff_false]
    exact ⟨fun e => hy e.symm, trivial⟩
  | succ n ih =>
    intro a ha hA y hy
    obtain ⟨b, x, rfl⟩ : ∃ b x, a = b ++ [x] := ⟨a.dropLast, a.getLast (by intro e; rw [e] at ha; cases ha), (List.dropLast_concat_getLast _).symm⟩
    have hb := ih b (by rw [List.length_append, List.length_singleton] at ha; omega) hA.front y hy
    have hx := hA.rng x (by simp)
    have hd := (List.pairwise_append.1 hA.dis).2.2
    rw [asF_snoc]
    by_cases e : y.natAbs = x.natAbs
    · rw [e, up_eq]
      rcases (by omega : y = x ∨ y = -x) with rfl | rfl
      · exact ⟨by simp, ⟨fun h => absurd h hy, fun h => absurd (List.mem_append.2 (.inr (List.mem_singleton.2 rfl))) h.1⟩⟩
      · refine ⟨⟨fun h => by omega, fun h => ?_⟩, ⟨fun h => absurd h hx.1, fun h => absurd (List.mem_append.2 (.inr (List.mem_singleton.2 (Int.neg_neg x)))) h.2⟩⟩
        rcases List.mem_append.1 h with h | h
        · exact absurd (Int.natAbs_neg x) (hd _ h x (by simp))
        · have := List.mem_singleton.1 h; omega
    · rw [up_ne e]
      have h1 : y ∈ b ++ [x] ↔ y ∈ b := by
        rw [List.mem_append, List.mem_singleton]
        exact ⟨fun h => h.resolve_right fun q => e (by rw [q]), .inl⟩
      have h2 : -y ∈ b ++ [x] ↔ -y ∈ b := by
        rw [List.mem_append, List.mem_singleton]
        exact ⟨fun h => h.resolve_right fun q => e (by rw [← q, Int.natAbs_neg]), .inl⟩
      rw [h1, h2]
      exact hb
theorem Asn.len {V : Nat} {a : List Int} (h : Asn V a) : a.length ≤ V := S43.trail_len h.rng h.dis
theorem pvar_abs {V : Nat} (hV : V ≤ 4096) {x : Int} (h : x.natAbs ≤ V) : pvarI x = (x.natAbs : Int) := by
  unfold pvarI
  rw [varI_abs hV h]
  split <;> omega
def pAs (fa : Nat → Int) : (Int → Option Int) → Prop := fun g => ∀ v : Nat, (g (v : Int)).getD 0 = fa v
theorem pAs_up {fa : Nat → Int} {v : Nat} {x : Int} : ∀ f, pAs fa f → pAs (up fa v x) (upF f (v : Int) (some x)) := fun f h y => by
  unfold upF up
  by_cases e : y = v
  · rw [if_pos (by rw [e]), if_pos e]; rfl
  · rw [if_neg (by omega), if_neg e]; exact h y
theorem mapT_a : MapT Try.prog 106 3 3 (.int .i64 0) := ⟨Try.underlying106, fun w => by kernel_rfl⟩
theorem tyVa : TyI Try.prog 106 1 false := ⟨by kernel_rfl, Try.isAgg106⟩
theorem tzVa : TyZ Try.prog 106 (.map none) := ⟨by kernel_rfl⟩
theorem SY.asG {ops : Array Oper} {hp : List HObj} {fr : List Dat} {dst : Option Tmp} {ty : TypeId} {ps : String} {af : Array Edge} {g : Option (Nat × Bool)} {b : Nat} {x y : Operand} {fa : Nat → Int} {l : Nat} {u : Int} (hu : fa l = u) (hx : OpD fr x (dX (.map (some b)))) (hm : hG b kvI is64 kvI (pAs fa) ∈ hp) (hy : OpD fr y (dI (l : Int))) (ho : is64 (l : Int)) :
    SY Try.prog ops hp { dst := dst, op := .lookup 106 x y false, type := ty, pos := ps, after := af, guard := g } fr (dI u) :=
  SY.lookG mapT_a keyT_I hx hm hy isI ho fun I w f hf => by
    have := hf l
    rw [hu] at this
    cases h : f (l : Int) <;> rw [h] at this <;> simp at this <;> show _ = _
    · rw [← this]; rfl
    · rw [← this]; rfl
theorem variable41_p (x : Int) : Fn Try.prog 45 [dI x] (dI (pvarI x)) := Fn.old1 fun I w u hu => by
  cases (hu : _ = _)
  refine (variable_c x w).mono ?_
  rintro e w' ⟨rfl, rfl⟩
  exact ⟨_, rfl, Ext.refl _, rfl⟩
section
variable {P : Program} {f : FuncId} {fn : Func} {c : Code} {ds : List Dat} {hp1 : List HObj}
def fin2L (t u : Nat) (K : Dat → Dat → List HObj → Prop) (hp : List HObj) : Post := fun e f q => (match e with | .normal | .ret => True | _ => False) ∧ ∃ d d' e2 e3 hp2, f[t]? = some d ∧ f[u]? = some d' ∧ d.le e2 ∧ d'.le e3 ∧ q = hp2 ++ hp ∧ K e2 e3 hp2
theorem CallC.intro2L {t u : Nat} {K : Dat → Dat → List HObj → Prop} (hf : P.funcs[f]? = some fn) (hb : fn.body = some c) (hr : fn.results = #[.tmp t, .tmp u])
    (h : ∀ hp, WC P (fin2L t u K hp) c (ds ++ List.replicate (fn.ntmps - ds.length) (dX undef)) (hp1 ++ hp)) : CallC P f ds hp1 (fun d hp2 => ∃ e2 e3, d = dT [e2, e3] ∧ K e2 e3 hp2) := ⟨fun P0 B w0 hp vs W hh hl hv => by
  refine calls_of_wp hf hb ?_
  have hf0 := fr_enter (m := fn.ntmps - ds.length) hl hv
  have hsz : vs.toArray.size = ds.length := by simp [hl]
  rw [hsz]
  refine Code.wp_mono (fun e a' w' ⟨f', p', q, hh', hf'⟩ => ?_) ((h hp).on hh hf0)
  obtain ⟨hx, d, d', e2, e3, hp2, hd, hd', l2, l3, rfl, hk'⟩ := q
  have hT : (dT [e2, e3]).rd (Imm P0 B (hp2 ++ hp)) w' (.tuple #[a'.tmps.getD t undef, a'.tmps.getD u undef]) := dT2_rd (l2 _ _ _ (hf'.rd t d hd)) (l3 _ _ _ (hf'.rd u d' hd'))
  cases e with
  | normal => exact ⟨hf'.defers, _, results_tmp2 hr _ _ _, _, _, hp2, rfl, ⟨e2, e3, rfl, hk'⟩, hh', hT⟩
  | ret => exact ⟨hf'.defers, _, results_tmp2 hr _ _ _, _, _, hp2, rfl, ⟨e2, e3, rfl, hk'⟩, hh', hT⟩
  | _ => exact hx.elim⟩
end
set_option linter.unusedSimpArgs false
set_option linter.unusedVariables false
set_option maxHeartbeats 2000000
set_option maxRecDepth 100000
theorem indexD_c (xs : List Int) (hxl : xs.length ≤ 1000000) (gf : FuncId) (caps : List Value) (he : Enters Try.prog gf) (O : List HObj) (p : Int → Bool)
    (hcl : ∀ x ∈ xs, CallC Try.prog gf ([dI x] ++ caps.map dX) O (fun d hp2 => d = dB (p x) ∧ hp2 = O)) :
    CallC Try.prog 70 ([dS Ints xs, dX (.func (.func gf) #[] caps.toArray)] ++ ([] : List Value).map dX) O (fun d hp2 => d = dI (fidx p xs) ∧ hp2 = O) := by
  (refine CallC.intro Try.func70 rfl rfl (fun hp => ?_); simp only [Try.ntmps70, List.length_cons, List.length_nil, List.length_append, List.length_map, Nat.reduceAdd, Nat.reduceSub, List.replicate_succ, List.replicate_zero, List.cons_append, List.nil_append, List.map_cons, List.map_nil, List.append_assoc])
  (repeat' (first | (apply WL.opN; exact yF; dsimp only [setD, z0, z1]) | refine WL.nil ?_ | refine WC.seqK fun Kx hK => ?_ | (refine hK _ _ ?_; clear hK) | refine WC.region ?_ | (apply WL.opN; (focus ((first | (apply SY.len; (exact oD); (exact nD); (exact uD)) | fail); all_goals infer_instance)); dsimp only [setD, z0, z1]) | refine WC.block ?_))
  (refine WC.loopU (X := Nat) (fun i => [(8, dI (i : Int)), (4, dA), (5, dA), (9, dA), (10, dA), (11, dA), (12, dA), (13, dA), (14, dA), (15, dA), (16, dA), (17, dA), (18, dA)]) (fun i => (O ++ hp)) (fun i => xs.length - i) (fun i => i ≤ xs.length ∧ ∀ j (hj : j < i) (hjx : j < xs.length), p xs[j] = false) 0 ?start ?frame0 ?objs0 ?round)
  case start => exact ⟨Nat.zero_le _, fun j hj => absurd hj (Nat.not_lt_zero j)⟩
  case frame0 => ((try dsimp only [upds, z0, z1]); repeat (first | exact LeF.nil | refine LeF.co (k := ?_)))
  case objs0 => rfl
  case round =>
    rintro i ⟨hi, hno⟩
    dsimp only [upds, z0, z1]
    by_cases hin : i < xs.length
    · have hlt : (i : Int) < (xs.length : Int) := by omega
      have hC := hcl _ (List.getElem_mem hin)
      cases hp : p xs[i] with
      | true =>
        rw [hp] at hC
        ((repeat' (first | (apply WL.opN; exact yF; dsimp only [setD, z0, z1]) | refine WL.nil ?_ | refine WC.seqK fun Kx hK => ?_ | (refine hK _ _ ?_; clear hK) | refine WC.region ?_ |  (refine WL.callC (hp1 := O) (caps := caps) hC he (OpD.t rfl) (ArgsD.cons (OpD.t rfl) ArgsD.nil) ?_; rintro d' hp2 ⟨rfl, hpe⟩; have hpe := hpe.symm; subst hpe; dsimp only [setD, z0, z1, List.cons_append]) | (apply WL.opN; (focus ((first | (refine SY.ix (R := RI) (_gR := inferInstance) (k := i) elI (OpD.t rfl) (OpD.t rfl) hin) | ((first | apply SY.move | apply SY.assign | apply SY.lss) <;> (exact oD)) | fail); all_goals infer_instance)); dsimp only [setD, z0, z1]) | (apply WC.condT; (exact oD); (with_reducible rfl)) | (apply WC.condD; (exact oD); all_goals (intro h; try exact xD)) | refine WC.skip ?_ | refine WC.ret ?_ | refine WC.block ?_ | refine ThenD.r ?_ | refine InBlockD.r ?_)); all_goals (first | ((repeat clear hK); (repeat clear Kx))))
        all_goals try (exfalso; first | contradiction | omega)
        exact ⟨trivial, _, O, rfl, rfl, by rw [fidx_hit hin hp fun j hj => hno j hj (by omega)], rfl⟩
      | false =>
        rw [hp] at hC
        ((repeat' (first | (apply WL.opN; exact yF; dsimp only [setD, z0, z1]) | refine WL.nil ?_ | refine WC.seqK fun Kx hK => ?_ | (refine hK _ _ ?_; clear hK) | refine WC.region ?_ |  (refine WL.callC (hp1 := O) (caps := caps) hC he (OpD.t rfl) (ArgsD.cons (OpD.t rfl) ArgsD.nil) ?_; rintro d' hp2 ⟨rfl, hpe⟩; have hpe := hpe.symm; subst hpe; dsimp only [setD, z0, z1, List.cons_append]) | (apply WL.opN; (focus ((first | (refine SY.ix (R := RI) (_gR := inferInstance) (k := i) elI (OpD.t rfl) (OpD.t rfl) hin) | ((first | apply SY.move | apply SY.assign | apply SY.lss) <;> (exact oD)) | ((first | apply SY.add) <;> first | exact oD | omega) | fail); all_goals infer_instance)); dsimp only [setD, z0, z1]) | (apply WC.condF; (exact oD); (with_reducible rfl)) | (apply WC.condD; (exact oD); all_goals (intro h; try exact xD)) | refine WC.skip ?_ | refine WC.block ?_ | refine ThenD.n ?_)); all_goals (first | ((repeat clear hK); (repeat clear Kx))))
        all_goals try (exfalso; first | contradiction | omega)
        (refine ⟨i + 1, ?_, by first | omega | (simp only; omega), rfl, ?_⟩; rotate_left; ((try dsimp only [upds, z0, z1]); repeat (first | exact LeF.nil | refine LeF.co (k := ?_))); (try dsimp only))
        refine ⟨by omega, fun j hj hjx => ?_⟩
        by_cases hji : j = i
        · subst hji; exact hp
        · exact hno j (by omega) hjx
    · have hlt : ¬ (i : Int) < (xs.length : Int) := by omega
      ((repeat' (first | (apply WL.opN; exact yF; dsimp only [setD, z0, z1]) | refine WL.nil ?_ | refine WC.seqK fun Kx hK => ?_ | (refine hK _ _ ?_; clear hK) | (refine Kont.skip ?_; clear hK) | refine WC.region ?_ | (apply WL.opN; (focus ((first | ((first | apply SY.move | apply SY.assign | apply SY.lss) <;> (exact oD)) | fail); all_goals infer_instance)); dsimp only [setD, z0, z1]) | (apply WC.condD; (exact oD); all_goals (intro h; try exact xD)) | refine WC.ret ?_ | refine WC.exit ?_)); all_goals (first | ((repeat clear hK); (repeat clear Kx))))
      all_goals try (exfalso; first | contradiction | omega)
      exact ⟨trivial, _, O, rfl, rfl, by rw [fidx_none fun j hj => hno j (by omega) hj], rfl⟩
theorem containsD_c (xs : List Int) (hxl : xs.length ≤ 1000000) (gf : FuncId) (caps : List Value) (he : Enters Try.prog gf) (O : List HObj) (p : Int → Bool)
    (hcl : ∀ x ∈ xs, CallC Try.prog gf ([dI x] ++ caps.map dX) O (fun d hp2 => d = dB (p x) ∧ hp2 = O)) :
    CallC Try.prog 43 ([dS Ints xs, dX (.func (.func gf) #[] caps.toArray)] ++ ([] : List Value).map dX) O (fun d hp2 => d = dB (xs.any p) ∧ hp2 = O) := by
  (refine CallC.intro Try.func43 rfl rfl (fun hp => ?_); simp only [Try.ntmps43, List.length_cons, List.length_nil, List.length_append, List.length_map, Nat.reduceAdd, Nat.reduceSub, List.replicate_succ, List.replicate_zero, List.cons_append, List.nil_append, List.map_cons, List.map_nil, List.append_assoc])
  have hI := indexD_c xs hxl gf caps he O p hcl
  rw [← fidx_any]
  ((repeat' (first | (apply WL.opN; exact yF; dsimp only [setD, z0, z1]) | refine WL.nil ?_ | refine WC.seqK fun Kx hK => ?_ | (refine hK _ _ ?_; clear hK) | refine WC.region ?_ |  (refine WL.callC (hp1 := O) (caps := []) hI Try.call70 OpD.f (ArgsD.cons (OpD.t rfl) (ArgsD.cons (OpD.t rfl) ArgsD.nil)) ?_; rintro d' hp2 ⟨rfl, hpe⟩; have hpe := hpe.symm; subst hpe; dsimp only [setD, z0, z1, List.cons_append]) | (apply WL.opN; (focus ((first | ((first | apply SY.move | apply SY.assign | apply SY.geq) <;> (exact oD)) | fail); all_goals infer_instance)); dsimp only [setD, z0, z1]) | refine WC.ret ?_)); all_goals (first | ((repeat clear hK); (repeat clear Kx))))
  all_goals exact ⟨trivial, _, O, rfl, rfl, rfl, rfl⟩
theorem filt_take {α : Type} {p : α → Bool} {xs : List α} {i : Nat} (h : i < xs.length) : (xs.take (i + 1)).filter p = (xs.take i).filter p ++ if p xs[i] = true then [xs[i]] else [] := by
  rw [List.take_succ_eq_append_getElem h, List.filter_append]
  congr 1
  by_cases e : p xs[i] = true
  · rw [if_pos e, List.filter_cons, if_pos e]; rfl
  · rw [if_neg e, List.filter_cons, if_neg e]; rfl
set_option maxHeartbeats 4000000 in
theorem applyI_c (xs : List Int) (hxl : xs.length ≤ 1000000) (gf : FuncId) (caps : List Value) (he : Enters Try.prog gf) (O : List HObj) (p : Int → Bool)
    (hcl : ∀ x ∈ xs, CallC Try.prog gf ([dI x] ++ caps.map dX) O (fun d hp2 => d = dT [dI x, dB (p x)] ∧ hp2 = O)) :
    CallC Try.prog 89 ([dS Ints xs, dX (.func (.func gf) #[] caps.toArray)] ++ ([] : List Value).map dX) O (fun d hp2 => ∃ v, d = dX v ∧ hp2 = hRow v tI RI (xs.filter p) :: O) := by
  (refine CallC.intro Try.func89 rfl rfl (fun hp => ?_); simp only [Try.ntmps89, List.length_cons, List.length_nil, List.length_append, List.length_map, Nat.reduceAdd, Nat.reduceSub, List.replicate_succ, List.replicate_zero, List.cons_append, List.nil_append, List.map_cons, List.map_nil, List.append_assoc])
  refine WC.nilRow tI RI ?_
  (repeat' (first | (apply WL.opN; exact yF; dsimp only [setD, z0, z1]) | refine WL.nil ?_ | refine WC.seqK fun Kx hK => ?_ | (refine hK _ _ ?_; clear hK) | refine WC.region ?_ | (apply WL.opN; (focus ((first | (apply SY.len; (exact oD); (exact nD); (exact uD)) | fail); all_goals infer_instance)); dsimp only [setD, z0, z1]) | refine WC.block ?_))
  (refine WC.loopU (X := Nat × Value) (fun z => [(12, dI (z.1 : Int)), (5, dX z.2), (7, dA), (8, dA), (9, dA), (13, dA), (14, dA), (15, dA), (16, dA), (17, dA), (18, dA), (19, dA), (20, dA), (21, dA), (22, dA), (23, dA), (24, dA), (25, dA), (26, dA), (27, dA)]) (fun z => (hRow z.2 tI RI ((xs.take z.1).filter p) :: (O ++ hp))) (fun z => xs.length - z.1) (fun z => z.1 ≤ xs.length) (0, nilV) ?start ?frame0 ?objs0 ?round)
  case start => exact Nat.zero_le _
  case frame0 => ((try dsimp only [upds, z0, z1]); repeat (first | exact LeF.nil | refine LeF.co (k := ?_)))
  case objs0 => rfl
  case round =>
    rintro ⟨i, vo⟩ hi
    simp only at hi
    dsimp only [upds, z0, z1]
    by_cases hin : i < xs.length
    · have hlt : (i : Int) < (xs.length : Int) := by omega
      have hC := (hcl _ (List.getElem_mem hin)).front (hRow vo tI RI ((xs.take i).filter p))
      have et := filt_take (p := p) hin
      have hfl : ((xs.take i).filter p).length ≤ xs.length := Nat.le_trans (List.length_filter_le _ _) (by rw [List.length_take]; omega)
      have h8 : (((xs.take i).filter p).length + 1) * 8 ≤ 140737488355328 := by omega
      cases hp : p xs[i] with
      | true =>
        rw [hp] at hC
        rw [if_pos hp] at et
        ((repeat' (first | (apply WL.opN; exact yF; dsimp only [setD, z0, z1]) | refine WL.nil ?_ | refine WC.seqK fun Kx hK => ?_ | (refine hK _ _ ?_; clear hK) | refine WC.region ?_ |  (refine WL.callC (hp1 := hRow vo tI RI ((xs.take i).filter p) :: O) (caps := caps) hC he (OpD.t rfl) (ArgsD.cons (OpD.t rfl) ArgsD.nil) ?_; rintro d' hp2 ⟨rfl, rfl⟩; dsimp only [setD, z0, z1, List.cons_append]) | ((first | apply WL.pushK | apply WL.push1); (exact eD); exact OpD.t rfl; (exact oD); (intro _; exact hD); (exact (by simp)); (exact (by simp)); (first | exact ⟨by decide, by decide⟩ | skip); decide; (exact lD); (intro _; dsimp only [setD, z0, z1]); all_goals (try infer_instance)) | (apply WL.opN; (focus ((first | (refine SY.ix (R := RI) (_gR := inferInstance) (k := i) elI (OpD.t rfl) (OpD.t rfl) hin) | ((first | apply SY.move | apply SY.assign | apply SY.lss) <;> (exact oD)) | ((first | apply SY.add) <;> first | exact oD | omega) | (apply SY.extract; (exact oD); rfl) | fail); all_goals infer_instance)); dsimp only [setD, z0, z1]) | (apply WC.condT; (exact oD); (with_reducible rfl)) | (apply WC.condD; (exact oD); all_goals (intro h; try exact xD)) | refine WC.skip ?_ | refine WC.block ?_ | refine ThenD.n ?_)); all_goals (first | ((repeat clear hK); (repeat clear Kx))))
        all_goals try (exfalso; first | contradiction | omega)
        rw [← et]
        (refine ⟨(i + 1, _), ?_, by first | omega | (simp only; omega), rfl, ?_⟩; rotate_left; ((try dsimp only [upds, z0, z1]); repeat (first | exact LeF.nil | refine LeF.co (k := ?_))); (try dsimp only))
        omega
      | false =>
        rw [hp] at hC
        rw [if_neg (by rw [hp]; decide), List.append_nil] at et
        ((repeat' (first | (apply WL.opN; exact yF; dsimp only [setD, z0, z1]) | refine WL.nil ?_ | refine WC.seqK fun Kx hK => ?_ | (refine hK _ _ ?_; clear hK) | refine WC.region ?_ |  (refine WL.callC (hp1 := hRow vo tI RI ((xs.take i).filter p) :: O) (caps := caps) hC he (OpD.t rfl) (ArgsD.cons (OpD.t rfl) ArgsD.nil) ?_; rintro d' hp2 ⟨rfl, rfl⟩; dsimp only [setD, z0, z1, List.cons_append]) | (apply WL.opN; (focus ((first | (refine SY.ix (R := RI) (_gR := inferInstance) (k := i) elI (OpD.t rfl) (OpD.t rfl) hin) | ((first | apply SY.move | apply SY.assign | apply SY.lss) <;> (exact oD)) | ((first | apply SY.add) <;> first | exact oD | omega) | (apply SY.extract; (exact oD); rfl) | fail); all_goals infer_instance)); dsimp only [setD, z0, z1]) | (apply WC.condF; (exact oD); (with_reducible rfl)) | (apply WC.condD; (exact oD); all_goals (intro h; try exact xD)) | refine WC.skip ?_ | refine WC.block ?_ | refine ThenD.n ?_)); all_goals (first | ((repeat clear hK); (repeat clear Kx))))
        all_goals try (exfalso; first | contradiction | omega)
        rw [← et]
        (refine ⟨(i + 1, vo), ?_, by first | omega | (simp only; omega), rfl, ?_⟩; rotate_left; ((try dsimp only [upds, z0, z1]); repeat (first | exact LeF.nil | refine LeF.co (k := ?_))); (try dsimp only))
        omega
    · have hlt : ¬ (i : Int) < (xs.length : Int) := by omega
      obtain rfl : i = xs.length := by omega
      rw [List.take_length]
      ((repeat' (first | (apply WL.opN; exact yF; dsimp only [setD, z0, z1]) | refine WL.nil ?_ | refine WC.seqK fun Kx hK => ?_ | (refine hK _ _ ?_; clear hK) | (refine Kont.skip ?_; clear hK) | refine WC.region ?_ | (apply WL.opN; (focus ((first | ((first | apply SY.move | apply SY.assign | apply SY.lss) <;> (exact oD)) | fail); all_goals infer_instance)); dsimp only [setD, z0, z1]) | (apply WC.condD; (exact oD); all_goals (intro h; try exact xD)) | refine WC.ret ?_ | refine WC.exit ?_)); all_goals (first | ((repeat clear hK); (repeat clear Kx))))
      all_goals try (exfalso; first | contradiction | omega)
      exact ⟨trivial, _, hRow vo tI RI (xs.filter p) :: O, rfl, rfl, vo, rfl, rfl⟩
end Go.Proofs.Ytpiidgcljlalmaa
