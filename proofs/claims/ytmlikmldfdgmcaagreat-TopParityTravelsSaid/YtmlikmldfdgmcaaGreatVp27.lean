/-
  Part 27 of the texts that the claims of this seat lean on: walks of the program's functions by contracts over symbolic frames, and plain laws of what they compute. No condition.
-/
import Derived.Test.YtmlikmldfdgmcaaGreatVp7
import Derived.Test.YtmlikmldfdgmcaaGreatVp11
import Derived.Test.YtmlikmldfdgmcaaGreatVp13
import Derived.Test.YtmlikmldfdgmcaaGreatVp16
import Derived.Test.YtmlikmldfdgmcaaGreatVp23
import Derived.Test.YtmlikmldfdgmcaaGreatVp26
set_option linter.unusedVariables false
set_option linter.unusedSimpArgs false
set_option linter.unusedSectionVars false
namespace Go.Proofs.YtmlikmldfdgmcaaGreat
open Go.RowKit
set_option linter.unusedSimpArgs false

set_option maxHeartbeats 2000000
set_option maxRecDepth 100000
theorem ord34_p (x y : Vx) : Fn Tryz.prog 55 [dS RV x, dS RV y] (dI (cmpV x y)) := by
  have hC := cmpL_p [x] [y]
  rw [M.cmpL_one] at hC
  (refine Fn.intro1 Tryz.func55 rfl rfl ?_; simp only [Tryz.ntmps55, List.length_cons, List.length_nil, Nat.reduceAdd, Nat.reduceSub, List.replicate_succ, List.replicate_zero, List.cons_append, List.nil_append])
  ((repeat' (first | (apply WL.opN; exact yF; dsimp only [setD, z0, z1]) | refine WL.nil ?_ | refine WC.seqK fun Kx hK => ?_ | (refine hK _ _ ?_; clear hK) | refine WC.region ?_ | (apply WL.opN; (focus ((first | (apply SY.call (hC) Tryz.call42; (exact aD)) | (apply SY.buildE; (exact eD); ((try simp only [List.map_cons, List.map_nil]); (repeat (first | exact ElsD.nl | (apply ElsD.cn; (first | exact OpD.t rfl | exact OpD.i | exact OpD.b | exact OpD.tle rfl (by first | exact Dat.le_nil | exact Dat.le_nilK (by decide)) | exact ⟨Dat.le_nil⟩ | exact ⟨Dat.le_nilK (by decide)⟩))))); rfl; rfl; decide; (intro _; exact shape_V); (exact (by simp))) | (apply SY.box; (exact oD); (exact hD)) | fail); all_goals infer_instance)); dsimp only [setD, z0, z1]) | refine WC.ret ?_)); all_goals (first | ((repeat clear hK); (repeat clear Kx))))
  (refine ⟨trivial, _, rfl, ?_⟩; exact fD)
section
variable {P : Program} {ops : Array Oper} {hp : List HObj} {fr : List Dat} {dst : Option Tmp} {ty : TypeId} {ps : String} {af : Array Edge} {g : Option (Nat × Bool)}
theorem SY.convY {x : Operand} {A T : TypeId} {u v : Value} {n : Int} (hx : OpD fr x (dI n)) (hu : u = .int .i64 n) (hr : ∀ w, (convert A T u).run P w = .ok v w) :
    SY P ops hp { dst := dst, op := .convert A T x, type := ty, pos := ps, after := af, guard := g } fr (dX v) := SY.val fun {I w a} ho => by
  have h1 : a.eval x = u := (hx.get (by simp [Op.operands]) ho : a.eval x = .int .i64 n).trans hu.symm
  refine ⟨v, ?_, rfl⟩
  unfold execOp
  simp only [h1, Sem.run_bind, hr, Result.andThen_ok, Sem.run_pure]
theorem SY.binX {x y : Operand} {T T2 : TypeId} {u v r : Value} {op : BinOp} (hx : OpD fr x (dX u)) (hy : OpD fr y (dX v)) (hr : ∀ (x y : Operand) w, (do eqGuard op T x y u v; Go.binOp op T u v).run P w = .ok r w) :
    SY P ops hp { dst := dst, op := .binOp op T x y T2, type := ty, pos := ps, after := af, guard := g } fr (dX r) := SY.val fun {I w a} ho => by
  have h1 : a.eval x = u := hx.get (by simp [Op.operands]) ho
  have h2 : a.eval y = v := hy.get (by simp [Op.operands]) ho
  refine ⟨r, ?_, rfl⟩
  have := hr x y w
  unfold execOp
  simp only [h1, h2]
  rw [Sem.run_bind, this]
  rfl
end
theorem cvIW (n : Nat) (h : n < 9223372036854775808) : ∀ w, (convert 3 116 (.int .i64 (n : Int))).run Tryz.prog w = .ok (.int .u64 (n : Int)) w := by
  have hw : IntKind.u64.wrap (n : Int) = (n : Int) := by simp [IntKind.wrap, IntKind.signed, IntKind.bits]; omega
  intro w; go_simp
theorem cvWI (n : Nat) (h : n < 9223372036854775808) : ∀ w, (convert 116 3 (.int .u64 (n : Int))).run Tryz.prog w = .ok (.int .i64 (n : Int)) w := by
  have hw : IntKind.i64.wrap (n : Int) = (n : Int) := by rw [IntKind.wrap_i64]; omega
  intro w; go_simp
theorem shrW (n : Nat) (h : n < 9223372036854775808) : ∀ (x y : Operand) w, (do eqGuard .shr 116 x y (.int .u64 (n : Int)) (.int .u64 1); Go.binOp .shr 116 (.int .u64 (n : Int)) (.int .u64 1)).run Tryz.prog w = .ok (.int .u64 ((n / 2 : Nat) : Int)) w := by
  intro x y w
  go_simp
abbrev dOrd : Dat := dFun Tryz.prog (fun x : Vx × Vx => [dS RV x.1, dS RV x.2]) (fun x => dI (cmpV x.1 x.2))
theorem tyIn : TyI Tryz.prog 37 1 false := ⟨by kernel_rfl, Tryz.isAgg37⟩
theorem tyFi : TyI Tryz.prog 72 1 false := ⟨by kernel_rfl, Tryz.isAgg72⟩
theorem tzFi : TyZ Tryz.prog 72 .nilFunc := ⟨by kernel_rfl⟩
def posV (vs : List Vx) (v : Vx) : Nat := (vs.filter fun u => decide (cmpV u v < 0)).length
theorem pos_at {vs : List Vx} {v : Vx} {i : Nat} (hi : i ≤ vs.length) (h1 : ∀ k (h : k < vs.length), k < i → cmpV vs[k] v < 0) (h2 : ∀ k (h : k < vs.length), i ≤ k → ¬ cmpV vs[k] v < 0) : posV vs v = i := by
  unfold posV
  have e : vs = vs.take i ++ vs.drop i := (List.take_append_drop i vs).symm
  rw [e, List.filter_append, List.length_append]
  have a1 : (vs.take i).filter (fun u => decide (cmpV u v < 0)) = vs.take i := by
    rw [List.filter_eq_self]
    intro u hu
    obtain ⟨k, hk, rfl⟩ := List.getElem_of_mem hu
    rw [List.length_take] at hk
    rw [List.getElem_take]
    exact decide_eq_true (h1 k (by omega) (by omega))
  have a2 : (vs.drop i).filter (fun u => decide (cmpV u v < 0)) = [] := by
    rw [List.filter_eq_nil_iff]
    intro u hu
    obtain ⟨k, hk, rfl⟩ := List.getElem_of_mem hu
    rw [List.length_drop] at hk
    rw [List.getElem_drop, decide_eq_true_eq]
    exact h2 (i + k) (by omega) (by omega)
  rw [a1, a2, List.length_take, List.length_nil]
  omega
theorem asc_lt {vs : List Vx} (ha : Asc vs) {v : Vx} {k m : Nat} (hk : k < m) (hm : m < vs.length) (h : cmpV vs[m] v < 0) : cmpV (vs[k]'(by omega)) v < 0 :=
  cmpV_trans (List.pairwise_iff_getElem.1 ha k m (by omega) hm hk) h
set_option maxHeartbeats 8000000 in
theorem bs_p (vs : List Vx) (v : Vx) (ha : Asc vs) (hl : vs.length ≤ 1000000) : Fn Tryz.prog 61 [dS Verts vs, dS RV v, dOrd] (dT [dI (posV vs v : Int), dB (decide (v ∈ vs))]) := by
  (refine Fn.intro2 Tryz.func61 rfl rfl ?_; simp only [Tryz.ntmps61, List.length_cons, List.length_nil, Nat.reduceAdd, Nat.reduceSub, List.replicate_succ, List.replicate_zero, List.cons_append, List.nil_append])
  (repeat' (first | ((first | apply WL.opN | apply WD.opN); exact yF; dsimp only [setD, z0, z1]) | refine WL.nil ?_ | refine WC.seqK fun Kx hK => ?_ | (refine hK _ _ ?_; clear hK) | refine WC.region ?_ | ((first | apply WL.opG | apply WD.op); (focus (first | exact wN | (apply SYG.yes; (exact wY); ((first | (apply SY.len; (exact oD); (exact nD); (exact uD)) | (apply SY.box; (exact oD); (exact hD)) | fail); all_goals infer_instance)))); dsimp only [setD, z0, z1]) | refine WC.block ?_))
  (refine WC.loopU (X := Nat × Nat) (fun x => [(9, dI (x.1 : Int)), (10, dI (x.2 : Int)), (11, dA), (15, dA), (16, dA), (17, dA), (18, dA), (19, dA), (20, dA), (21, dA), (22, dA), (23, dA), (24, dA), (25, dA), (26, dA), (27, dA), (28, dA), (29, dA), (30, dA), (31, dA), (32, dA), (33, dA), (34, dA)]) (fun x => []) (fun x => x.2 - x.1) (fun x => x.1 ≤ x.2 ∧ x.2 ≤ vs.length ∧ (∀ k (h : k < vs.length), k < x.1 → cmpV vs[k] v < 0) ∧ (∀ k (h : k < vs.length), x.2 ≤ k → ¬ cmpV vs[k] v < 0)) (0, vs.length) ?start ?frame0 ?objs0 ?round)
  case start => exact ⟨Nat.zero_le _, Nat.le_refl _, fun k _ h => by omega, fun k h1 h2 => by simp only at h2; omega⟩
  case frame0 => ((try dsimp only [upds, z0, z1]); repeat (first | exact LeF.nil | refine LeF.co (k := ?_)))
  case objs0 => rfl
  case round =>
    rintro ⟨i, j⟩ ⟨h1, h2, h3, h4⟩
    simp only at h1 h2 h3 h4
    dsimp only [upds, z0, z1]
    by_cases hij : i < j
    · have hm : (i + j) / 2 < vs.length := by omega
      ((repeat' (first | ((first | apply WL.opN | apply WD.opN); exact yF; dsimp only [setD, z0, z1]) | refine WL.nil ?_ | refine WD.nil ?_ | refine WC.seqK fun Kx hK => ?_ | (refine hK _ _ ?_; clear hK) | refine WC.region ?_ | (apply WC.draw; kernel_rfl; kernel_rfl) | ((first | apply WL.opG | apply WD.op); (focus (first | exact wN | (apply SYG.yes; (exact wY); ((first | (exact SY.convY (n := (i : Int) + (j : Int)) (OpD.t rfl) (u := .int .i64 ((i + j : Nat) : Int)) (by push_cast; rfl) (cvIW (i + j) (by omega))) | (exact SY.binX (OpD.t rfl) OpD.x (shrW (i + j) (by omega))) | (exact SY.convX (OpD.t rfl) (cvWI ((i + j) / 2) (by omega))) | (refine SY.ixK (R := RV) (_gR := inferInstance) elV (OpD.t rfl) (OpD.t rfl) hm) | (apply SY.dynF (x := (vs[(i + j) / 2], v)); (exact OpD.t rfl); (exact aD)) | ((first | apply SY.move | apply SY.assign | apply SY.lss | apply SY.eql) <;> (exact oD)) | ((first | apply SY.add) <;> first | exact oD | omega) | fail); all_goals infer_instance)))); dsimp only [setD, z0, z1]) | (apply WC.condD; (exact oD); all_goals (intro h; try exact xD)) | refine WC.skip ?_ | refine WC.block ?_ | refine ThenD.n ?_ | refine InBlockD.n ?_)); all_goals (first | ((repeat clear hK); (repeat clear Kx))))
      all_goals try (exfalso; omega)
      · (refine ⟨((i + j) / 2 + 1, j), ?_, by first | omega | (simp only; omega), rfl, ?_⟩; rotate_left; ((try dsimp only [upds, z0, z1]); repeat (first | exact LeF.nil | refine LeF.co (k := ?_))); (try dsimp only))
        refine ⟨by omega, h2, fun k hk hlt => ?_, h4⟩
        by_cases hkm : k = (i + j) / 2
        · subst hkm; exact h
        · exact asc_lt ha (by omega) hm h
      · (refine ⟨(i, (i + j) / 2), ?_, by first | omega | (simp only; omega), rfl, ?_⟩; rotate_left; ((try dsimp only [upds, z0, z1]); repeat (first | exact LeF.nil | refine LeF.co (k := ?_))); (try dsimp only))
        refine ⟨by omega, by omega, h3, fun k hk hle hlt => ?_⟩
        by_cases hkm : k = (i + j) / 2
        · subst hkm; exact h hlt
        · exact h (asc_lt ha (by omega) hk hlt)
    · have hie : i = j := by omega
      subst hie
      have hp := pos_at h2 h3 h4
      have hb := fun hv => search_end ha h3 h4 (v := v) hv
      rw [hp]
      by_cases hi : i < vs.length
      · have hd : decide (v ∈ vs) = decide (cmpV vs[i] v = 0) := by
          rw [decide_eq_decide]
          constructor
          · intro hv
            obtain ⟨_, e⟩ := hb hv
            rw [e]; exact cmpV_eq.2 rfl
          · intro e
            rw [← cmpV_eq.1 e]
            exact List.getElem_mem hi
        rw [hd]
        ((repeat' (first | ((first | apply WL.opN | apply WD.opN); exact yF; dsimp only [setD, z0, z1]) | refine WL.nil ?_ | refine WD.nil ?_ | refine WC.seqK fun Kx hK => ?_ | (refine hK _ _ ?_; clear hK) | (refine Kont.skip ?_; clear hK) | refine WC.region ?_ | (apply WC.draw; kernel_rfl; kernel_rfl) | ((first | apply WL.opG | apply WD.op); (focus (first | exact wN | (apply SYG.yes; (exact wY); ((first | (refine SY.ixK (R := RV) (_gR := inferInstance) elV (OpD.t rfl) (OpD.t rfl) hi) | (apply SY.dynF (x := (vs[i], v)); (exact OpD.t rfl); (exact aD)) | ((first | apply SY.move | apply SY.assign | apply SY.lss | apply SY.eql) <;> (exact oD)) | (apply SY.load; (exact tD); (exact oD)) | (apply SY.pickT; (exact oD); (with_reducible rfl); (exact oD)) | fail); all_goals infer_instance)))); dsimp only [setD, z0, z1]) | ((first | refine WL.caseP rfl rfl rfl (fun h => ?_) (fun h => ?_) | refine WL.caseN rfl rfl rfl (fun h => ?_) (fun h => ?_) | refine WL.caseB rfl rfl rfl (fun h => ?_) (fun h => ?_) | refine WD.caseP rfl rfl rfl (fun h => ?_) (fun h => ?_) | refine WD.caseN rfl rfl rfl (fun h => ?_) (fun h => ?_) | refine WD.caseB rfl rfl rfl (fun h => ?_) (fun h => ?_)) <;> (first | (exfalso; first | omega | contradiction) | (dsimp only [z0, z1]))) | (apply WC.condD; (exact oD); all_goals (intro h; try exact xD)) | refine WC.ret ?_ | refine WC.exit ?_)); all_goals (first | ((repeat clear hK); (repeat clear Kx))))
        all_goals try (exfalso; omega)
        (refine ⟨trivial, ⟨_, rfl, ?_⟩, _, rfl, ?_⟩ <;> (first | refine FinD.i ?_ | refine FinD.b ?_)) <;> first | (rw [hp]) | (rw [hd])
      · have hd : decide (v ∈ vs) = false := decide_eq_false fun hv => hi (hb hv).1
        rw [hd]
        ((repeat' (first | ((first | apply WL.opN | apply WD.opN); exact yF; dsimp only [setD, z0, z1]) | refine WL.nil ?_ | refine WD.nil ?_ | refine WC.seqK fun Kx hK => ?_ | (refine hK _ _ ?_; clear hK) | (refine Kont.skip ?_; clear hK) | refine WC.region ?_ | (apply WC.draw; kernel_rfl; kernel_rfl) | ((first | apply WL.opG | apply WD.op); (focus (first | exact wN | (apply SYG.yes; (exact wY); ((first | ((first | apply SY.move | apply SY.assign | apply SY.lss | apply SY.eql) <;> (exact oD)) | (apply SY.pickF; (exact oD); (with_reducible rfl); (exact oD)) | fail); all_goals infer_instance)))); dsimp only [setD, z0, z1]) | ((first | refine WL.caseP rfl rfl rfl (fun h => ?_) (fun h => ?_) | refine WL.caseN rfl rfl rfl (fun h => ?_) (fun h => ?_) | refine WL.caseB rfl rfl rfl (fun h => ?_) (fun h => ?_) | refine WD.caseP rfl rfl rfl (fun h => ?_) (fun h => ?_) | refine WD.caseN rfl rfl rfl (fun h => ?_) (fun h => ?_) | refine WD.caseB rfl rfl rfl (fun h => ?_) (fun h => ?_)) <;> (first | (exfalso; first | omega | contradiction) | (dsimp only [z0, z1]))) | (apply WC.condD; (exact oD); all_goals (intro h; try exact xD)) | refine WC.ret ?_ | refine WC.exit ?_)); all_goals (first | ((repeat clear hK); (repeat clear Kx))))
        all_goals try (exfalso; omega)
        (refine ⟨trivial, ⟨_, rfl, ?_⟩, _, rfl, ?_⟩ <;> (first | refine FinD.i ?_ | refine FinD.b ?_)) <;> first | (rw [hp]) | (rw [hd])
theorem le_ord34 : (dX (.func (.func 55) #[] #[])).le dOrd := le_fun Tryz.call55 fun x => ord34_p x.1 x.2
theorem find_in {vs : List Vx} {A : List Int} {v : Vx} (ha : Asc vs) (hA : A.length = vs.length) (hv : v ∈ vs) : ∃ h : posV vs v < A.length, findL vs A v = A[posV vs v] := by
  obtain ⟨k, hk, rfl⟩ := List.getElem_of_mem hv
  have hn : vs.Nodup := List.Pairwise.imp (fun {a b} h e => by rw [e, cmpV_eq.2 rfl] at h; omega) ha
  have hp : posV vs vs[k] = k := by
    refine pos_at (Nat.le_of_lt hk) (fun m hm hlt => List.pairwise_iff_getElem.1 ha m k hm hk hlt) (fun m hm hle hlt => ?_)
    rcases Nat.lt_or_ge k m with q | q
    · have h1 := List.pairwise_iff_getElem.1 ha k m hk hm q
      have h2 := cmpV_neg vs[k] vs[m]
      omega
    · have : k = m := by omega
      subst this
      rw [cmpV_eq.2 rfl] at hlt
      omega
  rw [hp]
  exact ⟨by omega, findL_get hn hk (by omega)⟩
set_option maxHeartbeats 4000000 in
theorem finder1_p (vs : List Vx) (A : List Int) (v : Vx) (ha : Asc vs) (hA : A.length = vs.length) (hl : vs.length ≤ 1000000) : Fn Tryz.prog 60 ([dS RV v] ++ [dP 2 true (dS Lab (vs, A))]) (dI (findL vs A v)) := by
  show Fn Tryz.prog 60 [dS RV v, dP 2 true (dS Lab (vs, A))] _
  have hB := bs_p vs v ha hl
  by_cases hv : v ∈ vs
  · obtain ⟨hp, he⟩ := find_in ha hA hv
    rw [decide_eq_true hv] at hB
    (refine Fn.intro1 Tryz.func60 rfl rfl ?_; simp only [Tryz.ntmps60, List.length_cons, List.length_nil, Nat.reduceAdd, Nat.reduceSub, List.replicate_succ, List.replicate_zero, List.cons_append, List.nil_append])
    ((repeat' (first | (apply WL.opN; exact yF; dsimp only [setD, z0, z1]) | refine WL.nil ?_ | refine WC.seqK fun Kx hK => ?_ | (refine hK _ _ ?_; clear hK) | refine WC.region ?_ | (apply WL.opN; (focus ((first | (refine SY.fldA strLb (OpD.t rfl) R2_agg rfl rfl) | (apply SY.call hB Tryz.call61; exact ArgsD.cons (OpD.t rfl) (ArgsD.cons (OpD.t rfl) (ArgsD.cons ⟨le_ord34⟩ ArgsD.nil))) | (apply SY.load; exact tyIn; exact OpD.t rfl) | (refine SY.ix (R := RI) (_gR := inferInstance) elI (OpD.t rfl) (OpD.t rfl) hp) | ((first | apply SY.move | apply SY.assign | apply SY.not) <;> (exact oD)) | (apply SY.extract; (exact oD); rfl) | (apply SY.box; (exact oD); (exact hD)) | fail); all_goals infer_instance)); dsimp only [setD, z0, z1]) | (apply WC.condNB; (exact oD); all_goals (intro h; try exact xD)) | refine WC.skip ?_ | refine WC.ret ?_)); all_goals (first | ((repeat clear hK); (repeat clear Kx))))
    all_goals try (exfalso; first | contradiction | omega)
    (refine ⟨trivial, _, rfl, ?_⟩; refine FinD.i ?_)
    all_goals (rw [he])
  · rw [decide_eq_false hv] at hB
    rw [findL_none hv]
    (refine Fn.intro1 Tryz.func60 rfl rfl ?_; simp only [Tryz.ntmps60, List.length_cons, List.length_nil, Nat.reduceAdd, Nat.reduceSub, List.replicate_succ, List.replicate_zero, List.cons_append, List.nil_append])
    ((repeat' (first | (apply WL.opN; exact yF; dsimp only [setD, z0, z1]) | refine WL.nil ?_ | refine WC.seqK fun Kx hK => ?_ | (refine hK _ _ ?_; clear hK) | refine WC.region ?_ | (apply WL.opN; (focus ((first | (refine SY.fldA strLb (OpD.t rfl) R2_agg rfl rfl) | (apply SY.call hB Tryz.call61; exact ArgsD.cons (OpD.t rfl) (ArgsD.cons (OpD.t rfl) (ArgsD.cons ⟨le_ord34⟩ ArgsD.nil))) | ((first | apply SY.move | apply SY.assign | apply SY.not) <;> (exact oD)) | (apply SY.extract; (exact oD); rfl) | (apply SY.box; (exact oD); (exact hD)) | fail); all_goals infer_instance)); dsimp only [setD, z0, z1]) | (apply WC.condNB; (exact oD); all_goals (intro h; try exact xD)) | refine WC.ret ?_ | refine ThenD.r ?_)); all_goals (first | ((repeat clear hK); (repeat clear Kx))))
    all_goals try (exfalso; first | contradiction | omega)
    (refine ⟨trivial, _, rfl, ?_⟩; exact fD)
abbrev dFind (f : Vx → Int) : Dat := dFun Tryz.prog (fun v : Vx => [dS RV v]) (fun v => dI (f v))
theorem finder_p (vs : List Vx) (A : List Int) (ha : Asc vs) (hA : A.length = vs.length) (hl : vs.length ≤ 1000000) : Fn Tryz.prog 31 [dS Lab (vs, A)] (dFind (findL vs A)) := by
  (refine Fn.intro1 Tryz.func31 rfl rfl ?_; simp only [Tryz.ntmps31, List.length_cons, List.length_nil, Nat.reduceAdd, Nat.reduceSub, List.replicate_succ, List.replicate_zero, List.cons_append, List.nil_append])
  ((repeat' (first | (apply WL.opN; exact yF; dsimp only [setD, z0, z1]) | refine WL.nil ?_ | refine WC.seqK fun Kx hK => ?_ | (refine hK _ _ ?_; clear hK) | refine WC.region ?_ | (apply WL.opN; (focus ((first | (apply SY.makeFun (A := fun v : Vx => [dS RV v]) (r := fun v => dI (findL vs A v)) Tryz.call60 (fun v => finder1_p vs A v ha hA hl) (fun _ => bare_I); (exact aD)) | (apply SY.box; (exact oD); (exact hD)) | fail); all_goals infer_instance)); dsimp only [setD, z0, z1]) | refine WC.ret ?_)); all_goals (first | ((repeat clear hK); (repeat clear Kx))))
  (refine ⟨trivial, _, rfl, ?_⟩; exact fD)
theorem covers1_p (f : Vx → Int) (v : Vx) : Fn Tryz.prog 57 ([dS RV v] ++ [dP 1 false (dFind f)]) (dB (decide (f v = 0))) := by
  show Fn Tryz.prog 57 [dS RV v, dP 1 false (dFind f)] _
  (refine Fn.intro1 Tryz.func57 rfl rfl ?_; simp only [Tryz.ntmps57, List.length_cons, List.length_nil, Nat.reduceAdd, Nat.reduceSub, List.replicate_succ, List.replicate_zero, List.cons_append, List.nil_append])
  ((repeat' (first | (apply WL.opN; exact yF; dsimp only [setD, z0, z1]) | refine WL.nil ?_ | refine WC.seqK fun Kx hK => ?_ | (refine hK _ _ ?_; clear hK) | refine WC.region ?_ | (apply WL.opN; (focus ((first | (apply SY.load; exact tyFi; exact OpD.t rfl) | (apply SY.dynF (x := v); (exact OpD.t rfl); (exact aD)) | ((first | apply SY.assign | apply SY.eql) <;> (exact oD)) | (apply SY.box; (exact oD); (exact hD)) | fail); all_goals infer_instance)); dsimp only [setD, z0, z1]) | refine WC.ret ?_)); all_goals (first | ((repeat clear hK); (repeat clear Kx))))
  (refine ⟨trivial, _, rfl, ?_⟩; exact fD)
def covP (l : Cx) (f : Vx → Int) : Bool := l.all fun s => !(s.any fun v => decide (f v = 0))
theorem covers_p (l : Cx) (vs : List Vx) (A : List Int) (ha : Asc vs) (hA : A.length = vs.length) (hl : vs.length ≤ 1000000) : Fn Tryz.prog 28 [dS Cpx l, dS Lab (vs, A)] (dB (covP l (findL vs A))) := by
  (refine Fn.intro1 Tryz.func28 rfl rfl ?_; simp only [Tryz.ntmps28, List.length_cons, List.length_nil, Nat.reduceAdd, Nat.reduceSub, List.replicate_succ, List.replicate_zero, List.cons_append, List.nil_append])
  (first | refine WC.know (t := 0) rfl le_K fun hl0 => ?_ | refine WC.know (t := 0) rfl le_A fun hl0 => ?_ | refine WC.know (t := 0) rfl le_C fun hl0 => ?_); simp only [maxLen] at hl0
  (repeat' (first | (apply WL.opN; exact yF; dsimp only [setD, z0, z1]) | refine WL.nil ?_ | refine WC.seqK fun Kx hK => ?_ | (refine hK _ _ ?_; clear hK) | refine WC.region ?_ |  (refine WL.alloc tzFi (shape_X rfl) fun b5 => ?_; dsimp only [setD, z0, z1]) |  (refine WL.storeF tyFi rfl (OpD.t rfl) shape_F ?_; dsimp only [setD, z0, z1]) | (apply WL.opN; (focus ((first | (apply SY.load; exact tyLb; exact OpD.t rfl) | (apply SY.call (finder_p vs A ha hA hl) Tryz.call31; (exact aD)) | (apply SY.len; (exact oD); (exact nD); (exact uD)) | (apply SY.fldC cpxT; exact OpD.t rfl) | (apply SY.box; (exact oD); (exact hD)) | fail); all_goals infer_instance)); dsimp only [setD, z0, z1]) | refine WC.block ?_))
  (refine WC.loopU (X := Nat) (fun k => [(13, dI (k : Int)), (4, dA), (7, dA), (14, dA), (15, dA), (16, dA), (17, dA), (18, dA), (19, dA), (20, dA)]) (fun k => []) (fun k => l.length - k) (fun k => k ≤ l.length ∧ covP l (findL vs A) = covP (l.drop k) (findL vs A)) 0 ?start ?frame0 ?objs0 ?round)
  case start => exact ⟨Nat.zero_le _, rfl⟩
  case frame0 => ((try dsimp only [upds, z0, z1]); repeat (first | exact LeF.nil | refine LeF.co (k := ?_)))
  case objs0 => rfl
  case round =>
    rintro k ⟨h1, h2⟩
    dsimp only [upds, z0, z1]
    ((repeat' (first | (apply WL.opN; exact yF; dsimp only [setD, z0, z1]) | refine WL.nil ?_ | refine WC.seqK fun Kx hK => ?_ | (refine hK _ _ ?_; clear hK) | (refine Kont.skip ?_; clear hK) | refine WC.region ?_ | (apply WL.opN; (focus ((first | (apply SY.makeFun (A := fun v : Vx => [dS RV v]) (r := fun v => dB (decide (findL vs A v = 0))) Tryz.call57 (fun v => covers1_p (findL vs A) v) (fun _ => bare_B); (exact aD)) | (apply SY.call (cntF_p _ (fun v => decide (findL vs A v = 0))) Tryz.call56; (exact aD)) | ((first | apply SY.move | apply SY.assign | apply SY.lss) <;> (exact oD)) | ((first | apply SY.add) <;> first | exact oD | omega) | (apply SY.ix; (exact eD); (exact oD); (exact oD); exact kD) | fail); all_goals infer_instance)); dsimp only [setD, z0, z1]) | (apply WC.condD; (exact oD); all_goals (intro h; try exact xD)) | (apply WC.cond; (exact oD); all_goals (intro h; try exact xD)) | refine WC.skip ?_ | refine WC.ret ?_ | refine WC.exit ?_ | refine WC.block ?_ | refine ThenD.n ?_ | refine ThenD.r ?_ | refine InBlockD.r ?_)); all_goals (first | ((repeat clear hK); (repeat clear Kx))))
    · (refine ⟨trivial, _, rfl, ?_⟩; refine FinD.b ?_)
      rw [h2, List.drop_eq_getElem_cons (by omega)]
      unfold covP
      rw [List.all_cons, h]; rfl
    · (refine ⟨k + 1, ?_, by first | omega | (simp only; omega), rfl, ?_⟩; rotate_left; ((try dsimp only [upds, z0, z1]); repeat (first | exact LeF.nil | refine LeF.co (k := ?_))); (try dsimp only))
      refine ⟨by omega, ?_⟩
      rw [h2, List.drop_eq_getElem_cons (by omega)]
      unfold covP
      rw [List.all_cons, h]; rfl
    · (refine ⟨trivial, _, rfl, ?_⟩; refine FinD.b ?_)
      rw [h2, List.drop_of_length_le (by omega)]; rfl
theorem single1_p (m : Int) (h : -1000000 ≤ m ∧ m ≤ 1000000) : Fn Tryz.prog 59 [dI m] (dB (!decide (iand m (m - 1) = 0))) := by
  (refine Fn.intro1 Tryz.func59 rfl rfl ?_; simp only [Tryz.ntmps59, List.length_cons, List.length_nil, Nat.reduceAdd, Nat.reduceSub, List.replicate_succ, List.replicate_zero, List.cons_append, List.nil_append])
  ((repeat' (first | (apply WL.opN; exact yF; dsimp only [setD, z0, z1]) | refine WL.nil ?_ | refine WC.seqK fun Kx hK => ?_ | (refine hK _ _ ?_; clear hK) | refine WC.region ?_ | (apply WL.opN; (focus ((first | ((first | apply SY.move | apply SY.assign | apply SY.neq | apply SY.and) <;> (exact oD)) | ((first | apply SY.sub) <;> first | exact oD | omega) | fail); all_goals infer_instance)); dsimp only [setD, z0, z1]) | refine WC.ret ?_)); all_goals (first | ((repeat clear hK); (repeat clear Kx))))
  (refine ⟨trivial, _, rfl, ?_⟩; exact fD)
def sglP (A : List Int) : Bool := !(A.any fun m => !decide (iand m (m - 1) = 0))
theorem single_p (vs : List Vx) (A : List Int) (h : ∀ m ∈ A, -1000000 ≤ m ∧ m ≤ 1000000) : Fn Tryz.prog 29 [dS Lab (vs, A)] (dB (sglP A)) := by
  have hC := cntI_p A fun m => !decide (iand m (m - 1) = 0)
  (refine Fn.intro1 Tryz.func29 rfl rfl ?_; simp only [Tryz.ntmps29, List.length_cons, List.length_nil, Nat.reduceAdd, Nat.reduceSub, List.replicate_succ, List.replicate_zero, List.cons_append, List.nil_append])
  ((repeat' (first | (apply WL.opN; exact yF; dsimp only [setD, z0, z1]) | refine WL.nil ?_ | refine WC.seqK fun Kx hK => ?_ | (refine hK _ _ ?_; clear hK) | refine WC.region ?_ | (apply WL.opN; (focus ((first | (refine SY.fldA strLb (OpD.t rfl) R2_agg rfl rfl) | (apply SY.load; exact tyIn; exact OpD.t rfl) | (apply SY.call hC Tryz.call58; exact ArgsD.cons (OpD.t rfl) (ArgsD.cons ⟨le_fun Tryz.call59 fun i => single1_p i.1 (h i.1 i.2)⟩ ArgsD.nil)) | ((first | apply SY.assign | apply SY.not) <;> (exact oD)) | (apply SY.box; (exact oD); (exact hD)) | fail); all_goals infer_instance)); dsimp only [setD, z0, z1]) | refine WC.ret ?_)); all_goals (first | ((repeat clear hK); (repeat clear Kx))))
  (refine ⟨trivial, _, rfl, ?_⟩; exact fD)
theorem together_p (s : List Vx) (f : Vx → Int) : Fn Tryz.prog 30 [dS Verts s, dFind f] (dI (orL f s)) := by
  (refine Fn.intro1 Tryz.func30 rfl rfl ?_; simp only [Tryz.ntmps30, List.length_cons, List.length_nil, Nat.reduceAdd, Nat.reduceSub, List.replicate_succ, List.replicate_zero, List.cons_append, List.nil_append])
  (first | refine WC.know (t := 0) rfl le_K fun hl0 => ?_ | refine WC.know (t := 0) rfl le_A fun hl0 => ?_ | refine WC.know (t := 0) rfl le_C fun hl0 => ?_); simp only [maxLen] at hl0
  (repeat' (first | (apply WL.opN; exact yF; dsimp only [setD, z0, z1]) | refine WL.nil ?_ | refine WC.seqK fun Kx hK => ?_ | (refine hK _ _ ?_; clear hK) | refine WC.region ?_ | (apply WL.opN; (focus ((first | (apply SY.len; (exact oD); (exact nD); (exact uD)) | fail); all_goals infer_instance)); dsimp only [setD, z0, z1]) | refine WC.block ?_))
  (refine WC.loopU (X := Nat) (fun k => [(5, dI (orL f (s.take k))), (10, dI (k : Int)), (7, dA), (11, dA), (12, dA), (13, dA), (14, dA), (15, dA), (16, dA), (17, dA), (18, dA), (19, dA)]) (fun k => []) (fun k => s.length - k) (fun k => k ≤ s.length) 0 ?start ?frame0 ?objs0 ?round)
  case start => exact Nat.zero_le _
  case frame0 => ((try dsimp only [upds, z0, z1]); repeat (first | exact LeF.nil | refine LeF.co (k := ?_)))
  case objs0 => rfl
  case round =>
    rintro k h1
    dsimp only [upds, z0, z1]
    by_cases hk : k < s.length
    · have he : ior (orL f (s.take k)) (f s[k]) = orL f (s.take (k + 1)) := by
        unfold orL
        rw [List.take_succ_eq_append_getElem hk, List.foldl_append]
        rfl
      ((repeat' (first | (apply WL.opN; exact yF; dsimp only [setD, z0, z1]) | refine WL.nil ?_ | refine WC.seqK fun Kx hK => ?_ | (refine hK _ _ ?_; clear hK) | refine WC.region ?_ | (apply WL.alloc; (first | exact tzV | exact tzC); (first | exact shape_X rfl | exact shape_XV | exact shape_C0 rfl); (intro _; dsimp only [setD, z0, z1])) | (apply WL.storeF; (exact tD); rfl; (exact oD); (exact hD); dsimp only [setD, z0, z1]) | (apply WL.opN; (focus ((first | (apply SY.dynF (x := s[k]); (exact OpD.t rfl); (exact aD)) | ((first | apply SY.move | apply SY.assign | apply SY.lss | apply SY.or) <;> (exact oD)) | ((first | apply SY.add) <;> first | exact oD | omega) | (apply SY.ixK; (exact eD); (exact oD); (exact oD); exact kD) | fail); all_goals infer_instance)); dsimp only [setD, z0, z1]) | (apply WC.condD; (exact oD); all_goals (intro h; try exact xD)) | refine WC.skip ?_ | refine WC.block ?_ | refine ThenD.n ?_)); all_goals (first | ((repeat clear hK); (repeat clear Kx))))
      all_goals try (exfalso; omega)
      rw [he]
      (refine ⟨k + 1, ?_, by first | omega | (simp only; omega), rfl, ?_⟩; rotate_left; ((try dsimp only [upds, z0, z1]); repeat (first | exact LeF.nil | refine LeF.co (k := ?_))); (try dsimp only))
      omega
    · ((repeat' (first | (apply WL.opN; exact yF; dsimp only [setD, z0, z1]) | refine WL.nil ?_ | refine WC.seqK fun Kx hK => ?_ | (refine hK _ _ ?_; clear hK) | (refine Kont.skip ?_; clear hK) | refine WC.region ?_ | (apply WL.opN; (focus ((first | ((first | apply SY.move | apply SY.assign | apply SY.lss | apply SY.or) <;> (exact oD)) | fail); all_goals infer_instance)); dsimp only [setD, z0, z1]) | (apply WC.condD; (exact oD); all_goals (intro h; try exact xD)) | refine WC.ret ?_ | refine WC.exit ?_)); all_goals (first | ((repeat clear hK); (repeat clear Kx))))
      all_goals try (exfalso; omega)
      rw [List.take_of_length_le (by omega)]
      (refine ⟨trivial, _, rfl, ?_⟩; exact fD)
end Go.Proofs.YtmlikmldfdgmcaaGreat
namespace Go.Proofs.YtmlikmldfdgmcaaGreat
open Go.RowKit
structure YStepE (P : Program) (l : Nat) {α : Type} (D : α → Dat) (J E : List α → List HObj → Prop) (N : Nat) : Prop where
  out : ∀ (P0 : Nat → Prop) (B : Nat) (w0 : World) (hp : List HObj) (pre : List α) (js : List HObj) (x : α) (u : Value) (W : World), pre.length < N → J pre js → Hp P0 B w0 (js ++ hp) W → (D x).rd (Imm P0 B (js ++ hp)) W u →
    YieldAt Fence.wide 0 P l #[u] W fun e W' => ∃ b : Bool, e = .returned (.bool b) ∧ ∃ js', (if b = true then J (pre ++ [x]) js' else E (pre ++ [x]) js') ∧ Hp P0 B w0 (js' ++ hp) W'
structure SeqE (P : Program) (gf : FuncId) (lb : List Value) (hk : List HObj) {α : Type} (D : α → Dat) (xs : List α) : Prop where
  out : ∀ (l : Nat) (J E : List α → List HObj → Prop), YStepE P l D J E xs.length → ∀ js, J [] js → CallC P gf (dX (.func (.yield l) #[] #[]) :: lb.map dX) (js ++ hk) (fun _ hp2 => ∃ js', (J xs js' ∨ ∃ pre x t, xs = pre ++ x :: t ∧ E (pre ++ [x]) js') ∧ hp2 = js' ++ hk)
theorem CallC.monoK {P : Program} {f : FuncId} {ds : List Dat} {hp1 : List HObj} {K K' : Dat → List HObj → Prop} (h : CallC P f ds hp1 K) (k : ∀ d hp2, K d hp2 → K' d hp2) : CallC P f ds hp1 K' :=
  ⟨fun P0 B w0 hp vs W hh hl hv => (h.out P0 B w0 hp vs W hh hl hv).mono fun _ _ ⟨v, d, hp2, e, hk, r⟩ => ⟨v, d, hp2, e, k d hp2 hk, r⟩⟩
theorem yieldAt_mono {F : Fence} {m : Nat} {P : Program} {l : Nat} {args : Array Value} {W : World} {R R' : Ending → World → Prop} (h : YieldAt F m P l args W R) (k : ∀ e w, R e w → R' e w) : YieldAt F m P l args W R' := by
  obtain ⟨fn, tmps, assign, body, hrun, hR⟩ := h
  exact ⟨fn, tmps, assign, body, hrun, hR.mono k⟩
theorem SeqE.seq {P : Program} {gf : FuncId} {lb : List Value} {hk : List HObj} {α : Type} {D : α → Dat} {xs : List α} (h : SeqE P gf lb hk D xs) : SeqC P gf lb hk D xs := ⟨fun l J hY js hj =>
  (h.out l J (fun _ _ => False) ⟨fun P0 B w0 hp pre js x u W hn hj hh hu => yieldAt_mono (hY.out P0 B w0 hp pre js x u W hn hj hh hu) fun _ _ ⟨he, js', hj', hh'⟩ => ⟨true, he, js', hj', hh'⟩⟩ js hj).monoK fun _ _ ⟨js', h1, h2⟩ => ⟨js', h1.elim id fun ⟨_, _, _, _, h3⟩ => h3.elim, h2⟩⟩
namespace I
end I
section
variable {P : Program} {l : Nat} {Q : Post} {fr : List Dat} {hp : List HObj}
theorem WR.ret (h : Q .ret fr hp) : WR P l Q .ret fr hp := WR.of fun _ _ _ _ _ hh hf => wpIn_ret ⟨fr, hp, h, hh, hf⟩
theorem WR.cond {c : Operand} {x y : Code} {b : Bool} (hc : OpD fr c (dB b)) (ht : b = true → WR P l Q x fr hp) (hf : b = false → WR P l Q y fr hp) : WR P l Q (.cond c x y) fr hp := WR.of fun P0 B w0 w a hh hfr => by
  refine wpIn_cond (t := b) (hc.ev hfr) ?_
  cases b with
  | true => exact (ht rfl).out _ _ _ _ _ hh hfr
  | false => exact (hf rfl).out _ _ _ _ _ hh hfr
theorem WR.use {c : Code} {d : Dat} {v : Value} (t : Nat) (ht : fr[t]? = some (dX v)) (hm : hKnow v d ∈ hp) (h : WR P l Q c (fr.set t d) hp) : WR P l Q c fr hp := WR.of fun P0 B w0 w a hh hf => by
  refine h.out _ _ _ _ _ hh ⟨hf.defers, by rw [hf.size, List.length_set], fun t' d' hd' => ?_⟩
  by_cases htt : t = t'
  · subst htt
    rw [List.getElem?_set] at hd'
    simp only [if_true] at hd'
    split at hd'
    · cases hd'
      have h1 : a.tmps.getD t undef = v := hf.rd t _ ht
      rw [h1]
      exact hh.ok _ hm
    · cases hd'
  · rw [List.getElem?_set_ne htt] at hd'
    exact hf.rd t' d' hd'
end
end Go.Proofs.YtmlikmldfdgmcaaGreat
