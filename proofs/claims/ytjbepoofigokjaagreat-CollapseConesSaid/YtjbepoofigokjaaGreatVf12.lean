/-
  Part 12 of the texts that the claims of this seat lean on: walks of the program's functions by contracts over symbolic frames, and plain laws of what they compute. No condition.
-/
import Derived.ControlIn
import Derived.OrdersIn
import Derived.TacticsIn
import Derived.Test.YtjbepoofigokjaaGreatVf6
import Derived.Test.YtjbepoofigokjaaGreatVf9
import Derived.Test.YtjbepoofigokjaaGreatVf11
set_option linter.unusedVariables false
set_option linter.unusedSimpArgs false
set_option linter.unusedSectionVars false
namespace Go.Proofs.YtjbepoofigokjaaGreat
open Go.RowKit
def R1 {α : Type} (R : Rel α) : Rel α := fun P w v x => ∃ u, v = .agg #[u] ∧ u.oneCell' = true ∧ R P w u x
instance {α : Type} (R : Rel α) [Good R] : Good (R1 R) where
  weak := fun ⟨u, h1, h0, h2⟩ q => ⟨u, h1, h0, Good.weak h2 q⟩
  move := fun ⟨u, h1, h0, h2⟩ q => ⟨u, h1, h0, Good.move h2 q⟩
  bound := fun ⟨u, h1, h0, h2⟩ => ⟨u, h1, h0, Good.bound h2⟩
abbrev Cpx : Rel (List (List (Int × Int))) := R1 Simps
theorem shape_C {α : Type} {R : Rel α} [Good R] {x : α} : (dS (R1 R) x).Shape 1 true := fun _ _ _ h => by
  obtain ⟨u, rfl, h0, _⟩ := h
  exact ⟨[u], rfl, Nat.one_pos, fun c hc => by rw [List.mem_singleton.1 hc]; exact h0, rfl, rfl⟩
theorem shape_C0 {u : Value} (h0 : u.oneCell' = true) : (dX (.agg #[u])).Shape 1 true := fun _ _ _ h => by
  cases (h : _ = _)
  exact ⟨[u], rfl, Nat.one_pos, fun c hc => by rw [List.mem_singleton.1 hc]; exact h0, rfl, rfl⟩
theorem le_C {α : Type} {R : Rel α} [Good R] {xs : List α} : ∀ (I : Nat → Prop) (w : World) (v : Value), (dS (R1 (Arr R)) xs).rd I w v → xs.length ≤ maxLen := fun _ _ _ h => by obtain ⟨_, _, _, h⟩ := h; exact le_A _ _ _ h
structure CpxT (P : Program) (T : TypeId) : Prop where
  fld : ∀ b off w, (Instr.fieldAt T (.pointer (some ⟨b, off, none⟩)) 0).run P w = .ok (.pointer (some ⟨b, off, none⟩)) w
  mkc : ∀ a n c w, (Instr.build T #[(0, .slice a n c)]).run P w = .ok (.agg #[.slice a n c]) w
  mkc0 : ∀ w, (Instr.build T #[]).run P w = .ok (.agg #[.slice none 0 0]) w
theorem cpxT : CpxT Tryz.prog 24 := by
  constructor
  · intro b off w; go_simp
  · intro a n c w; go_simp
  · intro w; go_simp
theorem tyC : TyI Tryz.prog 24 1 true := ⟨by kernel_rfl, Tryz.isAgg24⟩
theorem tzC : TyZ Tryz.prog 24 (.agg #[.slice none 0 0]) := ⟨by kernel_rfl⟩
theorem tySS : TyI Tryz.prog 22 1 false := ⟨by kernel_rfl, Tryz.isAgg22⟩
section
variable {P : Program} {ops : Array Oper} {hp : List HObj} {fr : List Dat} {d : Dat} {Q : Post} {rest : List Oper}
variable {dst : Option Tmp} {ty : TypeId} {ps : String} {af : Array Edge} {g : Option (Nat × Bool)} {T : TypeId} (V : CpxT P T)
include V
theorem SY.fldC {α : Type} {R : Rel α} {_gR : Good R} {x : Operand} {xs : α} (hx : OpD fr x (dP 1 true (dS (R1 R) xs))) : SY P ops hp { dst := dst, op := .fieldAddr T x 0, type := ty, pos := ps, after := af, guard := g } fr (dP 1 false (dS R xs)) := SY.val fun {I w a} ho => by
  obtain ⟨b, off, u, h1, ⟨hb, cs, k1, k0, k2, k3, k4⟩, u0, hu, h0, h3⟩ := hx.get (by simp [Op.operands]) ho
  simp only [if_true] at k4
  rw [k4] at hu
  have hcs : cs = [u0] := by injection hu with hu; exact List.toArray_inj hu
  subst hcs
  refine ⟨_, ?_, b, off, u0, rfl, ⟨hb, [u0], rfl, Nat.one_pos, by simp [h0], fun j c hc => k3 j c hc, rfl⟩, h3⟩
  unfold execOp
  simp only [h1, Sem.run_bind, V.fld, Result.andThen_ok, Sem.run_pure]
theorem SY.fldX {x : Operand} {b : Nat} (hx : OpD fr x (dX (.pointer (some ⟨b, 0, none⟩)))) : SY P ops hp { dst := dst, op := .fieldAddr T x 0, type := ty, pos := ps, after := af, guard := g } fr (dX (.pointer (some ⟨b, 0, none⟩))) := SY.val fun {I w a} ho => by
  have h1 : a.eval x = .pointer (some ⟨b, 0, none⟩) := hx.get (by simp [Op.operands]) ho
  refine ⟨_, ?_, rfl⟩
  unfold execOp
  simp only [h1, Sem.run_bind, V.fld, Result.andThen_ok, Sem.run_pure]
theorem SY.mkC {α : Type} {R : Rel α} {_gR : Good R} {x : Operand} {xs : List α} (hx : OpD fr x (dS (Arr R) xs)) : SY P ops hp { dst := dst, op := .build T #[(0, x)], type := ty, pos := ps, after := af, guard := g } fr (dS (R1 (Arr R)) xs) := SY.val fun {I w a} ho => by
  have h1 : Arr R I w (a.eval x) xs := hx.get (by simp [Op.operands]) ho
  have h2 := h1
  obtain ⟨ad, c, hv, _⟩ := h2
  rw [hv] at h1
  refine ⟨.agg #[.slice ad xs.length c], ?_, _, rfl, rfl, h1⟩
  unfold execOp
  simp only [List.map_toArray, List.map_cons, List.map_nil, hv, Sem.run_bind, V.mkc, Result.andThen_ok, Sem.run_pure]
theorem SY.mkC0 : SY P ops hp { dst := dst, op := .build T #[], type := ty, pos := ps, after := af, guard := g } fr (dS Cpx []) := SY.val fun {I w a} ho => by
  refine ⟨.agg #[.slice none 0 0], ?_, _, rfl, rfl, Arr.nil'⟩
  unfold execOp
  simp only [List.map_toArray, List.map_nil, Sem.run_bind, V.mkc0, Result.andThen_ok, Sem.run_pure]
end
theorem run_loadVarC {P : Program} {T : TypeId} {n : Nat} {agg : Bool} (T' : TyI P T n agg) {I : Nat → Prop} {w : World} {b off : Nat} {u : Value} (h : Cells I w b off n agg u) : (loadVar T ⟨b, off, none⟩).run P w = .ok u w := by
  have h1 := run_loadC T' h
  simpa [Instr.loadAt, Instr.sureAddr] using h1
theorem results_cellC {P : Program} {fn : Func} {t : Tmp} {T : TypeId} {n : Nat} {agg : Bool} (T' : TyI P T n agg) (hr : fn.results = #[.cell t T]) {I : Nat → Prop} {w : World} {tmps : Array Value} {b off : Nat} {u : Value} (hp : tmps.getD t undef = .pointer (some ⟨b, off, none⟩)) (h : Cells I w b off n agg u) : (results fn tmps).run P w = .ok u w := by
  have h1 := run_loadVarC T' h
  have hp' : tmps[t]?.getD undef = .pointer (some ⟨b, off, none⟩) := by simpa using hp
  simp [results, hr, hp', asAddr, h1]
theorem results_cellC2 {P : Program} {fn : Func} {t t2 : Tmp} {T : TypeId} {n : Nat} {agg : Bool} (T' : TyI P T n agg) (hr : fn.results = #[.cell t T, .tmp t2]) {I : Nat → Prop} {w : World} {tmps : Array Value} {b off : Nat} {u : Value} (hp : tmps.getD t undef = .pointer (some ⟨b, off, none⟩)) (h : Cells I w b off n agg u) : (results fn tmps).run P w = .ok (.tuple #[u, tmps.getD t2 undef]) w := by
  have h1 := run_loadVarC T' h
  have hp' : tmps[t]?.getD undef = .pointer (some ⟨b, off, none⟩) := by simpa using hp
  simp [results, hr, hp', asAddr, h1]
section
variable {P : Program} {hp : List HObj} {d : Dat}
def finC1 (t : Nat) (n : Nat) (agg : Bool) (res : Dat) : Post := fun e fr hp => (match e with | .normal | .ret => True | _ => False) ∧ ∃ d, fr[t]? = some (dP n agg d) ∧ FinD hp d res
def finC2 (t u : Nat) (n : Nat) (agg : Bool) (r s : Dat) : Post := fun e fr hp => (match e with | .normal | .ret => True | _ => False) ∧ (∃ d, fr[t]? = some (dP n agg d) ∧ FinD hp d r) ∧ ∃ d, fr[u]? = some d ∧ FinD hp d s
theorem Fn.introC1 {f : FuncId} {fn : Func} {c : Code} {args : List Dat} {res : Dat} {t : Tmp} {T : TypeId} {n : Nat} {agg : Bool} (T' : TyI P T n agg) (hf : P.funcs[f]? = some fn) (hb : fn.body = some c) (hr : fn.results = #[.cell t T])
    (h : WC P (finC1 t n agg res) c (args ++ List.replicate (fn.ntmps - args.length) (dX undef)) []) : Fn P f args res :=
  Fn.intro hf hb (fun e fr hp q => by
    obtain ⟨he, d, hd, hfin⟩ := q
    refine ⟨by cases e <;> simp_all, fun {P0 B w0 w a} hh hf' => ?_⟩
    obtain ⟨b, off, u, h1, h2, h3⟩ := hf'.rd t _ hd
    exact ⟨u, results_cellC T' hr h1 h2, hfin.out hh h3⟩) h
theorem Fn.introC2 {f : FuncId} {fn : Func} {c : Code} {args : List Dat} {r s : Dat} {t t2 : Tmp} {T : TypeId} {n : Nat} {agg : Bool} (T' : TyI P T n agg) (hf : P.funcs[f]? = some fn) (hb : fn.body = some c) (hr : fn.results = #[.cell t T, .tmp t2])
    (h : WC P (finC2 t t2 n agg r s) c (args ++ List.replicate (fn.ntmps - args.length) (dX undef)) []) : Fn P f args (dT [r, s]) :=
  Fn.intro hf hb (fun e fr hp q => by
    obtain ⟨he, ⟨d, hd, hfin⟩, d', hd', hfin'⟩ := q
    refine ⟨by cases e <;> simp_all, fun {P0 B w0 w a} hh hf' => ?_⟩
    obtain ⟨b, off, u, h1, h2, h3⟩ := hf'.rd t _ hd
    refine ⟨_, results_cellC2 T' hr h1 h2, [u, a.tmps.getD t2 undef], rfl, rfl, fun i e x he hx => ?_⟩
    match i, he, hx with
    | 0, he, hx => cases he; cases hx; exact hfin.out hh h3
    | 1, he, hx => cases he; cases hx; exact hfin'.out hh (hf'.rd t2 d' hd')) h
theorem FinD.rowC {v : Value} {e : TypeId} {α : Type} {R : Rel α} [Good R] {xs : List α} (h : hRow v e R xs ∈ hp) : FinD hp (dX (.agg #[v])) (dS (R1 (Arr R)) xs) := FinD.mk fun {P0 B w0 w u} hh hd => by
  cases (hd : u = _)
  have h1 := (FinD.row h).out (v := v) hh rfl
  have h2 := h1
  obtain ⟨a, c, hv, _⟩ := h2
  subst hv
  exact ⟨_, rfl, rfl, h1⟩
end
end Go.Proofs.YtjbepoofigokjaaGreat
namespace Go.Proofs.YtjbepoofigokjaaGreat
open Go.RowKit
set_option maxHeartbeats 2000000
set_option linter.unusedSimpArgs false


set_option maxRecDepth 100000
theorem fewAll_c (l : Cx) : Fn Tryz.prog 62 [dS Simps l] (dB (fewAllV l)) := by
  (refine Fn.intro1 Tryz.func62 rfl rfl ?_; simp only [Tryz.ntmps62, List.length_cons, List.length_nil, Nat.reduceAdd, Nat.reduceSub, List.replicate_succ, List.replicate_zero, List.cons_append, List.nil_append])
  ((repeat' (first | (apply WL.opN; exact yF; dsimp only [setD, z0, z1]) | refine WL.nil ?_ | refine WC.seqK fun Kx hK => ?_ | (refine hK _ _ ?_; clear hK) | refine WC.region ?_ | (apply WL.opN; (focus ((first | exact yGtr | exact yLen | fail); all_goals infer_instance)); dsimp only [setD, z0, z1]) | (apply WC.condD; (exact oD); all_goals (intro h; try exact xD)) | refine WC.skip ?_ | refine WC.ret ?_ | refine WC.block ?_ | refine ThenD.r ?_)); all_goals (first | refine WC.id ?_ | ((repeat clear hK); (repeat clear Kx))))
  · (refine ⟨trivial, _, rfl, ?_⟩; refine FinD.b ?_)
    unfold fewAllV
    rw [decide_eq_false (by omega)]; rfl
  · have h0 : l.length ≤ 30 := by omega
    (refine WC.loopU (X := Nat) (fun k => [(3, dI (k : Int)), (2, dA), (7, dA), (8, dA), (9, dA), (10, dA), (11, dA), (12, dA), (13, dA), (14, dA), (15, dA), (16, dA), (17, dA), (18, dA)]) (fun k => []) (fun k => l.length - k) (fun k => k ≤ l.length ∧ ∀ s ∈ l.take k, s.length ≤ 10) 0 ?start ?frame0 ?objs0 ?round)
    case start => simp
    case frame0 => ((try dsimp only [upds, z0, z1]); repeat (first | exact LeF.nil | refine LeF.co (k := ?_)))
    case objs0 => rfl
    case round =>
      rintro k ⟨h1, h2⟩
      dsimp only [upds, z0, z1]
      ((repeat' (first | (apply WL.opN; exact yF; dsimp only [setD, z0, z1]) | refine WL.nil ?_ | refine WC.seqK fun Kx hK => ?_ | (refine hK _ _ ?_; clear hK) | (refine Kont.skip ?_; clear hK) | refine WC.region ?_ | (apply WL.opN; (focus ((first | (apply SY.call (few_c _) Tryz.call16; (exact aD)) | exact yLss | exact yNot | exact yAdd | exact yLen | exact yIndexaddr | fail); all_goals infer_instance)); dsimp only [setD, z0, z1]) | (apply WC.condD; (exact oD); all_goals (intro h; try exact xD)) | (apply WC.condN; (exact oD); all_goals (intro h; try exact xD)) | refine WC.skip ?_ | refine WC.ret ?_ | refine WC.exit ?_ | refine WC.block ?_ | refine ThenD.n ?_ | refine ThenD.r ?_ | refine InBlockD.r ?_)); all_goals (first | ((repeat clear hK); (repeat clear Kx))))
      · (refine ⟨trivial, _, rfl, ?_⟩; refine FinD.b ?_)
        unfold fewAllV
        symm
        rw [Bool.and_eq_false_iff]
        right
        rw [List.all_eq_false]
        exact ⟨_, List.getElem_mem (show k < l.length by omega), by rw [decide_eq_false (by omega)]; exact Bool.false_ne_true⟩
      · (refine ⟨k + 1, ?_, by first | omega | (simp only; omega), rfl, ?_⟩; rotate_left; ((try dsimp only [upds, z0, z1]); repeat (first | exact LeF.nil | refine LeF.co (k := ?_))); (try dsimp only))
        refine ⟨by omega, fun s hs => ?_⟩
        rcases (mem_take_snoc (by omega)).1 hs with h' | rfl
        · exact h2 s h'
        · omega
      · rw [List.take_of_length_le (by omega)] at h2
        (refine ⟨trivial, _, rfl, ?_⟩; refine FinD.b ?_)
        unfold fewAllV
        symm
        rw [Bool.and_eq_true, List.all_eq_true]
        exact ⟨decide_eq_true h0, fun s hs => decide_eq_true (h2 s hs)⟩
theorem fewC_c (l : Cx) : Fn Tryz.prog 24 [dS Cpx l] (dB (fewAllV l)) := by
  (refine Fn.intro1 Tryz.func24 rfl rfl ?_; simp only [Tryz.ntmps24, List.length_cons, List.length_nil, Nat.reduceAdd, Nat.reduceSub, List.replicate_succ, List.replicate_zero, List.cons_append, List.nil_append])
  ((repeat' (first | (apply WL.opN; exact yF; dsimp only [setD, z0, z1]) | refine WL.nil ?_ | refine WC.seqK fun Kx hK => ?_ | (refine hK _ _ ?_; clear hK) | refine WC.region ?_ | (apply WL.opN; (focus ((first | (apply SY.call (fewAll_c _) Tryz.call62; (exact aD)) | exact yFieldaddr | exact yBox | fail); all_goals infer_instance)); dsimp only [setD, z0, z1]) | refine WC.ret ?_)); all_goals (first | ((repeat clear hK); (repeat clear Kx))))
  (refine ⟨trivial, _, rfl, ?_⟩; exact fD)
theorem sameC_c (l m : Cx) : Fn Tryz.prog 19 [dS Cpx l, dS Cpx m] (dB (decide (l = m))) := by
  (refine Fn.intro1 Tryz.func19 rfl rfl ?_; simp only [Tryz.ntmps19, List.length_cons, List.length_nil, Nat.reduceAdd, Nat.reduceSub, List.replicate_succ, List.replicate_zero, List.cons_append, List.nil_append])
  ((repeat' (first | (apply WL.opN; exact yF; dsimp only [setD, z0, z1]) | refine WL.nil ?_ | refine WC.seqK fun Kx hK => ?_ | (refine hK _ _ ?_; clear hK) | refine WC.region ?_ | (apply WL.opN; (focus ((first | (apply SY.call (sameAll_c _ _) Tryz.call53; (exact aD)) | exact yFieldaddr | exact yBox | fail); all_goals infer_instance)); dsimp only [setD, z0, z1]) | refine WC.ret ?_)); all_goals (first | ((repeat clear hK); (repeat clear Kx))))
  (refine ⟨trivial, _, rfl, ?_⟩; exact fD)
end Go.Proofs.YtjbepoofigokjaaGreat
namespace Go.Proofs.YtjbepoofigokjaaGreat
open Go.RowKit
set_option linter.unusedSimpArgs false

set_option maxHeartbeats 2000000
set_option maxRecDepth 100000
theorem filt_snoc {p : List Vx → Bool} {l : Cx} {k : Nat} (h : k < l.length) : (l.take (k + 1)).filter p = (l.take k).filter p ++ (if p l[k] = true then [l[k]] else []) := by
  rw [take_snoc' h, List.filter_append]
  by_cases hp : p l[k] = true
  · rw [if_pos hp, List.filter_cons_of_pos hp]; rfl
  · rw [if_neg hp, List.filter_cons_of_neg hp]; rfl
end Go.Proofs.YtjbepoofigokjaaGreat
namespace Go.Proofs.YtjbepoofigokjaaGreat
open Go.RowKit
set_option linter.unusedSimpArgs false

set_option maxHeartbeats 2000000
set_option maxRecDepth 100000
def twI (l : Cx) (i k : Nat) : Bool := decide (i ≠ k) && insideV (l.getD i []) (l.getD k [])
theorem any_snoc {n : Nat} {p : Nat → Bool} : (List.range (n + 1)).any p = ((List.range n).any p || p n) := by rw [List.range_succ, List.any_append]; simp
theorem any_yes {n k : Nat} {p : Nat → Bool} (hk : k < n) (h : p k = true) : (List.range n).any p = true := List.any_eq_true.2 ⟨k, List.mem_range.2 hk, h⟩
theorem getD_at {l : Cx} {k : Nat} (h : k < l.length) : l.getD k [] = l[k] := by simp [List.getD, h]
theorem chk27_c (l : Cx) : Fn Tryz.prog 44 [dS Cpx l] (dI (chkC l)) := by
  (refine Fn.intro1 Tryz.func44 rfl rfl ?_; simp only [Tryz.ntmps44, List.length_cons, List.length_nil, Nat.reduceAdd, Nat.reduceSub, List.replicate_succ, List.replicate_zero, List.cons_append, List.nil_append])
  ((repeat' (first | ((first | apply WL.opN | apply WD.opN); exact yF; dsimp only [setD, z0, z1]) | refine WL.nil ?_ | refine WC.seqK fun Kx hK => ?_ | (refine hK _ _ ?_; clear hK) | refine WC.region ?_ | ((first | apply WL.opG | apply WD.op); (focus (first | exact wN | (apply SYG.yes; (exact wY); ((first | exact yGtr | exact yLen | exact yFieldaddr | exact yBox | fail); all_goals infer_instance)))); dsimp only [setD, z0, z1]) | (apply WC.condD; (exact oD); all_goals (intro h; try exact xD)) | refine WC.skip ?_ | refine WC.ret ?_ | refine WC.block ?_ | refine ThenD.r ?_)); all_goals (first | refine WC.id ?_ | ((repeat clear hK); (repeat clear Kx))))
  · (refine ⟨trivial, _, rfl, ?_⟩; refine FinD.i ?_)
    unfold chkC; rw [if_pos (by omega)]
  · have hs : chkC l = if chkO none l ≠ 0 then chkO none l else if twiceC l = true then 7 else 0 := by unfold chkC; rw [if_neg (by omega)]
    (refine WC.loopU (X := Nat) (fun k => [(4, dI (k : Int)), (2, dA), (5, dA), (13, dA), (14, dA), (15, dA), (16, dA), (17, dA), (18, dA), (19, dA), (20, dA), (21, dA), (22, dA), (23, dA), (24, dA), (25, dA), (26, dA), (27, dA), (28, dA), (29, dA), (30, dA), (31, dA), (32, dA), (33, dA), (34, dA), (35, dA), (36, dA), (37, dA), (38, dA), (39, dA), (40, dA), (41, dA)]) (fun k => []) (fun k => l.length - k) (fun k => k ≤ l.length ∧ chkO none l = chkO (l.take k).getLast? (l.drop k)) 0 ?start ?frame0 ?objs0 ?round)
    case start => exact ⟨Nat.zero_le _, rfl⟩
    case frame0 => ((try dsimp only [upds, z0, z1]); repeat (first | exact LeF.nil | refine LeF.co (k := ?_)))
    case objs0 => rfl
    case round =>
      rintro k ⟨h3, h4⟩
      dsimp only [upds, z0, z1]
      ((repeat' (first | ((first | apply WL.opN | apply WD.opN); exact yF; dsimp only [setD, z0, z1]) | refine WL.nil ?_ | refine WD.nil ?_ | refine WC.seqK fun Kx hK => ?_ | (refine hK _ _ ?_; clear hK) | (refine Kont.skip ?_; clear hK) | refine WC.region ?_ | (apply WC.draw; kernel_rfl; kernel_rfl) | ((first | apply WL.opG | apply WD.op); (focus (first | exact wN | (apply SYG.yes; (exact wY); ((first | (apply SY.call (cmpL_c _ _) Tryz.call81; (exact aD)) | (apply SY.call (chk_c _) Tryz.call50; (exact aD)) | (apply SY.ixJ elSi (OpD.t rfl) (OpD.t rfl) (k - 1); omega; omega) | exact yMove | exact yLss | exact yGtr | exact yGeq | exact yNeq | exact yAdd | exact ySub | exact yLoad | exact yLen | exact yIndexaddr | exact yPick | fail); all_goals infer_instance)))); dsimp only [setD, z0, z1]) | ((first | refine WL.caseP rfl rfl rfl (fun h => ?_) (fun h => ?_) | refine WL.caseN rfl rfl rfl (fun h => ?_) (fun h => ?_) | refine WL.caseB rfl rfl rfl (fun h => ?_) (fun h => ?_) | refine WD.caseP rfl rfl rfl (fun h => ?_) (fun h => ?_) | refine WD.caseN rfl rfl rfl (fun h => ?_) (fun h => ?_) | refine WD.caseB rfl rfl rfl (fun h => ?_) (fun h => ?_)) <;> (first | (exfalso; first | omega | contradiction) | (dsimp only [z0, z1]))) | (apply WC.condF; (exact oD); (with_reducible rfl)) | (apply WC.condD; (exact oD); all_goals (intro h; try exact xD)) | (apply WC.condN; (exact oD); all_goals (intro h; try exact xD)) | refine WC.skip ?_ | refine WC.ret ?_ | refine WC.exit ?_ | refine WC.block ?_ | refine ThenD.n ?_ | refine ThenD.r ?_ | refine InBlockD.r ?_)); all_goals (first | refine WC.id ?_ | ((repeat clear hK); (repeat clear Kx))))
      all_goals try (rw [chkO_drop l k (by omega)] at h4)
      · (refine ⟨trivial, _, rfl, ?_⟩; refine FinD.i ?_)
        rw [hs, h4, if_pos h, if_pos h]
      · (refine ⟨trivial, _, rfl, ?_⟩; refine FinD.i ?_)
        have h5 : ¬ chkV l[k] ≠ 0 := by omega
        rw [if_neg h5, lastC_take _ _ (by omega) (by omega), if_pos (by simpa using h)] at h4
        rw [hs, h4]; rfl
      · (refine ⟨k + 1, ?_, by first | omega | (simp only; omega), rfl, ?_⟩; rotate_left; ((try dsimp only [upds, z0, z1]); repeat (first | exact LeF.nil | refine LeF.co (k := ?_))); (try dsimp only))
        refine ⟨by omega, ?_⟩
        have h5 : ¬ chkV l[k] ≠ 0 := by omega
        rw [h4, if_neg h5, lastC_take _ _ (by omega) (by omega), if_neg (by simpa using h)]
      · (refine ⟨k + 1, ?_, by first | omega | (simp only; omega), rfl, ?_⟩; rotate_left; ((try dsimp only [upds, z0, z1]); repeat (first | exact LeF.nil | refine LeF.co (k := ?_))); (try dsimp only))
        refine ⟨by omega, ?_⟩
        have h5 : ¬ chkV l[k] ≠ 0 := by omega
        have h0 : (l.take k).getLast? = none := by
          have : k = 0 := by omega
          rw [this]; rfl
        rw [h4, if_neg h5, h0]
        rfl
      · rw [List.drop_of_length_le (by omega)] at h4
        have h4' : chkO none l = 0 := h4
        have hs' : chkC l = if twiceC l = true then 7 else 0 := by rw [hs, if_neg (by omega)]
        clear hs h4
        (refine WC.loopU (X := Nat) (fun i => [(6, dI (i : Int)), (2, dA), (7, dA), (42, dA), (43, dA), (44, dA), (45, dA), (46, dA), (47, dA), (48, dA), (49, dA), (50, dA), (51, dA), (52, dA), (53, dA), (54, dA), (55, dA), (56, dA), (57, dA), (58, dA), (59, dA), (60, dA), (61, dA), (62, dA), (63, dA), (64, dA), (65, dA), (66, dA), (67, dA)]) (fun i => []) (fun i => l.length - i) (fun i => i ≤ l.length ∧ (List.range i).any (fun i => (List.range l.length).any (twI l i)) = false) 0 ?start ?frame0 ?objs0 ?round)
        case start => exact ⟨Nat.zero_le _, rfl⟩
        case frame0 => ((try dsimp only [upds, z0, z1]); repeat (first | exact LeF.nil | refine LeF.co (k := ?_)))
        case objs0 => rfl
        case round =>
          rintro i ⟨h5, h6⟩
          dsimp only [upds, z0, z1]
          ((repeat' (first | ((first | apply WL.opN | apply WD.opN); exact yF; dsimp only [setD, z0, z1]) | refine WL.nil ?_ | refine WC.seqK fun Kx hK => ?_ | (refine hK _ _ ?_; clear hK) | (refine Kont.skip ?_; clear hK) | refine WC.region ?_ | ((first | apply WL.opG | apply WD.op); (focus (first | exact wN | (apply SYG.yes; (exact wY); ((first | exact yLss | exact yLen | fail); all_goals infer_instance)))); dsimp only [setD, z0, z1]) | (apply WC.condD; (exact oD); all_goals (intro h; try exact xD)) | refine WC.skip ?_ | refine WC.ret ?_ | refine WC.exit ?_ | refine WC.block ?_)); all_goals (first | refine WC.id ?_ | ((repeat clear hK); (repeat clear Kx))))
          · (refine WC.loopU (X := Nat) (fun j => [(7, dI (j : Int)), (2, dA), (48, dA), (49, dA), (50, dA), (51, dA), (52, dA), (53, dA), (54, dA), (55, dA), (56, dA), (57, dA), (58, dA), (59, dA), (60, dA), (61, dA), (62, dA), (63, dA), (64, dA), (65, dA), (66, dA), (67, dA)]) (fun j => []) (fun j => l.length - j) (fun j => j ≤ l.length ∧ (List.range j).any (twI l i) = false) 0 ?start ?frame0 ?objs0 ?round)
            case start => exact ⟨Nat.zero_le _, rfl⟩
            case frame0 => ((try dsimp only [upds, z0, z1]); repeat (first | exact LeF.nil | refine LeF.co (k := ?_)))
            case objs0 => rfl
            case round =>
              rintro j ⟨h7, h8⟩
              dsimp only [upds, z0, z1]
              ((repeat' (first | ((first | apply WL.opN | apply WD.opN); exact yF; dsimp only [setD, z0, z1]) | refine WL.nil ?_ | refine WD.nil ?_ | refine WC.seqK fun Kx hK => ?_ | (refine hK _ _ ?_; clear hK) | (refine Kont.skip ?_; clear hK) | refine WC.region ?_ | (apply WC.draw; kernel_rfl; kernel_rfl) | ((first | apply WL.opG | apply WD.op); (focus (first | exact wN | (apply SYG.yes; (exact wY); ((first | (apply SY.call (inside_c _ _) Tryz.call82; (exact aD)) | exact yMove | exact yLss | exact yNeq | exact yAdd | exact yLoad | exact yLen | exact yIndexaddr | exact yPick | fail); all_goals infer_instance)))); dsimp only [setD, z0, z1]) | ((first | refine WL.caseP rfl rfl rfl (fun h => ?_) (fun h => ?_) | refine WL.caseN rfl rfl rfl (fun h => ?_) (fun h => ?_) | refine WL.caseB rfl rfl rfl (fun h => ?_) (fun h => ?_) | refine WD.caseP rfl rfl rfl (fun h => ?_) (fun h => ?_) | refine WD.caseN rfl rfl rfl (fun h => ?_) (fun h => ?_) | refine WD.caseB rfl rfl rfl (fun h => ?_) (fun h => ?_)) <;> (first | (exfalso; first | omega | contradiction) | (dsimp only [z0, z1]))) | (apply WC.condF; (exact oD); (with_reducible rfl)) | (apply WC.condD; (exact oD); all_goals (intro h; try exact xD)) | (apply WC.cond; (exact oD); all_goals (intro h; try exact xD)) | refine WC.skip ?_ | refine WC.ret ?_ | refine WC.exit ?_ | refine WC.block ?_ | refine ThenD.n ?_ | refine ThenD.r ?_ | refine InBlockD.r ?_)); all_goals (first | ((repeat clear hK); (repeat clear Kx))))
              · (refine ⟨trivial, _, rfl, ?_⟩; refine FinD.i ?_)
                have e : twI l i j = true := by
                  unfold twI
                  rw [getD_at (by omega), getD_at (by omega), h, decide_eq_true (by omega)]; rfl
                rw [hs', if_pos (show twiceC l = true from any_yes (k := i) (by omega) (any_yes (k := j) (by omega) e))]
              · (refine ⟨j + 1, ?_, by first | omega | (simp only; omega), rfl, ?_⟩; rotate_left; ((try dsimp only [upds, z0, z1]); repeat (first | exact LeF.nil | refine LeF.co (k := ?_))); (try dsimp only))
                refine ⟨by omega, ?_⟩
                rw [any_snoc, h8]
                unfold twI
                rw [getD_at (by omega), getD_at (by omega), h, Bool.and_false]; rfl
              · (refine ⟨j + 1, ?_, by first | omega | (simp only; omega), rfl, ?_⟩; rotate_left; ((try dsimp only [upds, z0, z1]); repeat (first | exact LeF.nil | refine LeF.co (k := ?_))); (try dsimp only))
                refine ⟨by omega, ?_⟩
                rw [any_snoc, h8]
                unfold twI
                rw [decide_eq_false (by omega)]; rfl
              · rw [show j = l.length by omega] at h8
                (refine ⟨i + 1, ?_, by first | omega | (simp only; omega), rfl, ?_⟩; rotate_left; ((try dsimp only [upds, z0, z1]); repeat (first | exact LeF.nil | refine LeF.co (k := ?_))); (try dsimp only))
                refine ⟨by omega, ?_⟩
                rw [any_snoc, h6, h8]; rfl
          · rw [show i = l.length by omega] at h6
            (refine ⟨trivial, _, rfl, ?_⟩; refine FinD.i ?_)
            have e : twiceC l = false := h6
            rw [hs', e]; rfl
def dimC (l : Cx) : Int := l.foldl (fun m s => if m < (s.length : Int) - 1 then (s.length : Int) - 1 else m) (-1)
def sizeP (l : Cx) : Bool := (List.range l.length).all fun i => decide (i = 0) || decide (((l.getD i []).length : Int) - 1 = dimC (l.take i))
theorem dimC_snoc {l : Cx} {k : Nat} (h : k < l.length) : dimC (l.take (k + 1)) = if dimC (l.take k) < (l[k].length : Int) - 1 then (l[k].length : Int) - 1 else dimC (l.take k) := by
  unfold dimC; rw [take_snoc' h, List.foldl_append]; rfl
theorem chkO_all : ∀ (l : Cx) (p : Option (List Vx)), chkO p l = 0 → ∀ s ∈ l, chkV s = 0
  | [], _, _, s, hs => by simp at hs
  | x :: l, p, h, s, hs => by
    unfold chkO at h
    by_cases h1 : chkV x ≠ 0
    · rw [if_pos h1] at h; exact absurd h h1
    · rw [if_neg h1] at h
      rcases List.mem_cons.1 hs with rfl | hs
      · omega
      · refine chkO_all l (some x) ?_ s hs
        revert h
        split
        · intro h; omega
        · exact id
theorem chkC_good {l : Cx} (h : chkC l = 0) : l.length ≤ 4096 ∧ chkO none l = 0 ∧ twiceC l = false ∧ ∀ s ∈ l, chkV s = 0 := by
  unfold chkC at h
  by_cases h1 : 4096 < l.length
  · rw [if_pos h1] at h; omega
  rw [if_neg h1] at h
  by_cases h2 : chkO none l ≠ 0
  · rw [if_pos h2] at h; exact absurd h h2
  rw [if_neg h2] at h
  refine ⟨by omega, by omega, ?_, chkO_all l none (by omega)⟩
  cases h3 : twiceC l with
  | false => rfl
  | true => rw [h3, if_pos rfl] at h; omega
end Go.Proofs.YtjbepoofigokjaaGreat
namespace Go.Proofs.YtjbepoofigokjaaGreat.I
open Go.RowKit
theorem oper_wide {P : Program} {o : Oper} {a : Act} {w : World} {K : Act → World → Prop} {Q : Exit → Act → World → Prop} (h : o.wp P a w K Q) : o.wpIn Fence.wide 0 P a w K Q := by
  refine ⟨fun _ _ => trivial, ?_⟩
  show o.uponIn Fence.wide 0 P a K Q ((execOp a.eval o).run P w)
  unfold Oper.wp at h
  revert h
  generalize (execOp a.eval o).run P w = r
  intro h
  unfold Oper.upon at h
  unfold Oper.uponIn
  split at h
  · exact h
  · exact h
  · exact h
  · exact ⟨fun h => by simp [Fence.wide] at h, callsIn_wide.2 h⟩
  · exact ⟨fun h => by simp [Fence.wide] at h, fun c cs _ => let ⟨v, w2, r, s⟩ := h c cs; ⟨v, w2, r, stepsIn_wide.2 s⟩⟩
  · exact h
  · exact h.elim
theorem wpListIn_plainW {P : Program} {ops : Array Oper} {Q : Exit → Act → World → Prop} {rest : List Oper} {o : Oper} {a : Act} {w : World} (hg : o.guard = none)
    (h : ∀ K : Act → World → Prop, (∀ a w, wpListIn Fence.wide 0 P ops Q rest a w → K a w) → o.wp P a w K Q) : wpListIn Fence.wide 0 P ops Q (o :: rest) a w :=
  wpListIn_plain hg fun K hK => oper_wide (h K hK)
end Go.Proofs.YtjbepoofigokjaaGreat.I
