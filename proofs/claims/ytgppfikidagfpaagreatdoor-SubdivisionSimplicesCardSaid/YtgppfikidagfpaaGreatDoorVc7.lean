/-
  Part 7 of the texts that the claims of this seat lean on: walks of the program's functions by contracts over symbolic frames, and plain laws of what they compute. No condition.
-/
import Derived.ControlIn
import Derived.Deep.MidRow
import Derived.OrdersIn
import Derived.TacticsIn
import Derived.Test.YtgppfikidagfpaaGreatDoorVc1
import Derived.Test.YtgppfikidagfpaaGreatDoorVc6
set_option linter.unusedVariables false
set_option linter.unusedSimpArgs false
set_option linter.unusedSectionVars false
namespace Go.Proofs.YtgppfikidagfpaaGreatDoor
open Go.RowKit
def R1 {α : Type} (R : Rel α) : Rel α := fun P w v x => ∃ u, v = .agg #[u] ∧ u.oneCell' = true ∧ R P w u x
instance {α : Type} (R : Rel α) [Good R] : Good (R1 R) where
  weak := fun ⟨u, h1, h0, h2⟩ q => ⟨u, h1, h0, Good.weak h2 q⟩
  move := fun ⟨u, h1, h0, h2⟩ q => ⟨u, h1, h0, Good.move h2 q⟩
  bound := fun ⟨u, h1, h0, h2⟩ => ⟨u, h1, h0, Good.bound h2⟩
abbrev Cpx : Rel (List (List (Int × Int))) := R1 Simps
theorem shape_C {α : Type} {R : Rel α} [Good R] {x : α} : (dS (R1 R) x).Shape 1 true := fun _ _ _ h => by
  obtain ⟨u, rfl, h0, _⟩ := h
  exact ⟨[u], rfl, Nat.one_pos, fun c hc => by rw [List.mem_singleton.1 hc]; exact h0, rfl, rfl⟩
theorem shape_C0 {u : Value} (h0 : u.oneCell' = true) : (dX (.agg #[u])).Shape 1 true := fun _ _ _ h => by
  cases (h : _ = _)
  exact ⟨[u], rfl, Nat.one_pos, fun c hc => by rw [List.mem_singleton.1 hc]; exact h0, rfl, rfl⟩
theorem le_C {α : Type} {R : Rel α} [Good R] {xs : List α} : ∀ (I : Nat → Prop) (w : World) (v : Value), (dS (R1 (Arr R)) xs).rd I w v → xs.length ≤ maxLen := fun _ _ _ h => by obtain ⟨_, _, _, h⟩ := h; exact le_A _ _ _ h
structure CpxT (P : Program) (T : TypeId) : Prop where
  fld : ∀ b off w, (Instr.fieldAt T (.pointer (some ⟨b, off, none⟩)) 0).run P w = .ok (.pointer (some ⟨b, off, none⟩)) w
  mkc : ∀ a n c w, (Instr.build T #[(0, .slice a n c)]).run P w = .ok (.agg #[.slice a n c]) w
  mkc0 : ∀ w, (Instr.build T #[]).run P w = .ok (.agg #[.slice none 0 0]) w
theorem cpxT : CpxT Tryz.prog 39 := by
  constructor
  · intro b off w; go_simp
  · intro a n c w; go_simp
  · intro w; go_simp
theorem tyC : TyI Tryz.prog 39 1 true := ⟨by kernel_rfl, Tryz.isAgg39⟩
theorem tzC : TyZ Tryz.prog 39 (.agg #[.slice none 0 0]) := ⟨by kernel_rfl⟩
theorem tySS : TyI Tryz.prog 37 1 false := ⟨by kernel_rfl, Tryz.isAgg37⟩
section
variable {P : Program} {ops : Array Oper} {hp : List HObj} {fr : List Dat} {d : Dat} {Q : Post} {rest : List Oper}
variable {dst : Option Tmp} {ty : TypeId} {ps : String} {af : Array Edge} {g : Option (Nat × Bool)} {T : TypeId} (V : CpxT P T)
include V
theorem SY.fldC {α : Type} {R : Rel α} {_gR : Good R} {x : Operand} {xs : α} (hx : OpD fr x (dP 1 true (dS (R1 R) xs))) : SY P ops hp { dst := dst, op := .fieldAddr T x 0, type := ty, pos := ps, after := af, guard := g } fr (dP 1 false (dS R xs)) := SY.val fun {I w a} ho => by
  obtain ⟨b, off, u, h1, ⟨hb, cs, k1, k0, k2, k3, k4⟩, u0, hu, h0, h3⟩ := hx.get (by simp [Op.operands]) ho
  simp only [if_true] at k4
  rw [k4] at hu
  have hcs : cs = [u0] := by injection hu with hu; exact List.toArray_inj hu
  subst hcs
  refine ⟨_, ?_, b, off, u0, rfl, ⟨hb, [u0], rfl, Nat.one_pos, by simp [h0], fun j c hc => k3 j c hc, rfl⟩, h3⟩
  unfold execOp
  simp only [h1, Sem.run_bind, V.fld, Result.andThen_ok, Sem.run_pure]
theorem SY.fldX {x : Operand} {b : Nat} (hx : OpD fr x (dX (.pointer (some ⟨b, 0, none⟩)))) : SY P ops hp { dst := dst, op := .fieldAddr T x 0, type := ty, pos := ps, after := af, guard := g } fr (dX (.pointer (some ⟨b, 0, none⟩))) := SY.val fun {I w a} ho => by
  have h1 : a.eval x = .pointer (some ⟨b, 0, none⟩) := hx.get (by simp [Op.operands]) ho
  refine ⟨_, ?_, rfl⟩
  unfold execOp
  simp only [h1, Sem.run_bind, V.fld, Result.andThen_ok, Sem.run_pure]
theorem SY.mkC {α : Type} {R : Rel α} {_gR : Good R} {x : Operand} {xs : List α} (hx : OpD fr x (dS (Arr R) xs)) : SY P ops hp { dst := dst, op := .build T #[(0, x)], type := ty, pos := ps, after := af, guard := g } fr (dS (R1 (Arr R)) xs) := SY.val fun {I w a} ho => by
  have h1 : Arr R I w (a.eval x) xs := hx.get (by simp [Op.operands]) ho
  have h2 := h1
  obtain ⟨ad, c, hv, _⟩ := h2
  rw [hv] at h1
  refine ⟨.agg #[.slice ad xs.length c], ?_, _, rfl, rfl, h1⟩
  unfold execOp
  simp only [List.map_toArray, List.map_cons, List.map_nil, hv, Sem.run_bind, V.mkc, Result.andThen_ok, Sem.run_pure]
theorem SY.mkC0 : SY P ops hp { dst := dst, op := .build T #[], type := ty, pos := ps, after := af, guard := g } fr (dS Cpx []) := SY.val fun {I w a} ho => by
  refine ⟨.agg #[.slice none 0 0], ?_, _, rfl, rfl, Arr.nil'⟩
  unfold execOp
  simp only [List.map_toArray, List.map_nil, Sem.run_bind, V.mkc0, Result.andThen_ok, Sem.run_pure]
end
theorem run_loadVarC {P : Program} {T : TypeId} {n : Nat} {agg : Bool} (T' : TyI P T n agg) {I : Nat → Prop} {w : World} {b off : Nat} {u : Value} (h : Cells I w b off n agg u) : (loadVar T ⟨b, off, none⟩).run P w = .ok u w := by
  have h1 := run_loadC T' h
  simpa [Instr.loadAt, Instr.sureAddr] using h1
theorem results_cellC {P : Program} {fn : Func} {t : Tmp} {T : TypeId} {n : Nat} {agg : Bool} (T' : TyI P T n agg) (hr : fn.results = #[.cell t T]) {I : Nat → Prop} {w : World} {tmps : Array Value} {b off : Nat} {u : Value} (hp : tmps.getD t undef = .pointer (some ⟨b, off, none⟩)) (h : Cells I w b off n agg u) : (results fn tmps).run P w = .ok u w := by
  have h1 := run_loadVarC T' h
  have hp' : tmps[t]?.getD undef = .pointer (some ⟨b, off, none⟩) := by simpa using hp
  simp [results, hr, hp', asAddr, h1]
theorem results_cellC2 {P : Program} {fn : Func} {t t2 : Tmp} {T : TypeId} {n : Nat} {agg : Bool} (T' : TyI P T n agg) (hr : fn.results = #[.cell t T, .tmp t2]) {I : Nat → Prop} {w : World} {tmps : Array Value} {b off : Nat} {u : Value} (hp : tmps.getD t undef = .pointer (some ⟨b, off, none⟩)) (h : Cells I w b off n agg u) : (results fn tmps).run P w = .ok (.tuple #[u, tmps.getD t2 undef]) w := by
  have h1 := run_loadVarC T' h
  have hp' : tmps[t]?.getD undef = .pointer (some ⟨b, off, none⟩) := by simpa using hp
  simp [results, hr, hp', asAddr, h1]
section
variable {P : Program} {hp : List HObj} {d : Dat}
def finC1 (t : Nat) (n : Nat) (agg : Bool) (res : Dat) : Post := fun e fr hp => (match e with | .normal | .ret => True | _ => False) ∧ ∃ d, fr[t]? = some (dP n agg d) ∧ FinD hp d res
def finC2 (t u : Nat) (n : Nat) (agg : Bool) (r s : Dat) : Post := fun e fr hp => (match e with | .normal | .ret => True | _ => False) ∧ (∃ d, fr[t]? = some (dP n agg d) ∧ FinD hp d r) ∧ ∃ d, fr[u]? = some d ∧ FinD hp d s
theorem Fn.introC1 {f : FuncId} {fn : Func} {c : Code} {args : List Dat} {res : Dat} {t : Tmp} {T : TypeId} {n : Nat} {agg : Bool} (T' : TyI P T n agg) (hf : P.funcs[f]? = some fn) (hb : fn.body = some c) (hr : fn.results = #[.cell t T])
    (h : WC P (finC1 t n agg res) c (args ++ List.replicate (fn.ntmps - args.length) (dX undef)) []) : Fn P f args res :=
  Fn.intro hf hb (fun e fr hp q => by
    obtain ⟨he, d, hd, hfin⟩ := q
    refine ⟨by cases e <;> simp_all, fun {P0 B w0 w a} hh hf' => ?_⟩
    obtain ⟨b, off, u, h1, h2, h3⟩ := hf'.rd t _ hd
    exact ⟨u, results_cellC T' hr h1 h2, hfin.out hh h3⟩) h
theorem Fn.introC2 {f : FuncId} {fn : Func} {c : Code} {args : List Dat} {r s : Dat} {t t2 : Tmp} {T : TypeId} {n : Nat} {agg : Bool} (T' : TyI P T n agg) (hf : P.funcs[f]? = some fn) (hb : fn.body = some c) (hr : fn.results = #[.cell t T, .tmp t2])
    (h : WC P (finC2 t t2 n agg r s) c (args ++ List.replicate (fn.ntmps - args.length) (dX undef)) []) : Fn P f args (dT [r, s]) :=
  Fn.intro hf hb (fun e fr hp q => by
    obtain ⟨he, ⟨d, hd, hfin⟩, d', hd', hfin'⟩ := q
    refine ⟨by cases e <;> simp_all, fun {P0 B w0 w a} hh hf' => ?_⟩
    obtain ⟨b, off, u, h1, h2, h3⟩ := hf'.rd t _ hd
    refine ⟨_, results_cellC2 T' hr h1 h2, [u, a.tmps.getD t2 undef], rfl, rfl, fun i e x he hx => ?_⟩
    match i, he, hx with
    | 0, he, hx => cases he; cases hx; exact hfin.out hh h3
    | 1, he, hx => cases he; cases hx; exact hfin'.out hh (hf'.rd t2 d' hd')) h
theorem FinD.rowC {v : Value} {e : TypeId} {α : Type} {R : Rel α} [Good R] {xs : List α} (h : hRow v e R xs ∈ hp) : FinD hp (dX (.agg #[v])) (dS (R1 (Arr R)) xs) := FinD.mk fun {P0 B w0 w u} hh hd => by
  cases (hd : u = _)
  have h1 := (FinD.row h).out (v := v) hh rfl
  have h2 := h1
  obtain ⟨a, c, hv, _⟩ := h2
  subst hv
  exact ⟨_, rfl, rfl, h1⟩
end
end Go.Proofs.YtgppfikidagfpaaGreatDoor
namespace Go.Proofs.YtgppfikidagfpaaGreatDoor
open Go.RowKit
section
variable {α : Type} {R : Rel α}
theorem arr_k1 [Good R] {xs : List α} : (dS (Arr R) xs).le (dS (ArrK 1 (R1 R)) xs) := fun I w v h => by
  obtain ⟨a, cap, hv, h1, h2, h3⟩ := (h : Arr R I w v xs)
  refine ⟨a, cap, hv, h1, h2, Nat.one_pos, fun k hk => ?_⟩
  obtain ⟨u, b, off, r1, r2, r3, r4, r5⟩ := h3 k hk
  refine ⟨[u], b, off, ⟨u, rfl, r2, r1⟩, rfl, fun c hc => by rw [List.mem_singleton.1 hc]; exact r2, r3, r4, fun j c hc => ?_⟩
  match j, hc with
  | 0, hc => cases hc; rw [Nat.mul_one, Nat.add_zero]; exact r5
theorem k1_arr [Good R] {xs : List α} : (dS (ArrK 1 (R1 R)) xs).le (dS (Arr R) xs) := fun I w v h => by
  obtain ⟨a, cap, hv, h1, h2, _, h3⟩ := (h : ArrK 1 (R1 R) I w v xs)
  refine ⟨a, cap, hv, h1, h2, fun k hk => ?_⟩
  obtain ⟨cs, b, off, ⟨u, e, r2, r1⟩, hl, hc, r3, r4, r5⟩ := h3 k hk
  obtain ⟨c, rfl⟩ := List.length_eq_one_iff.1 hl
  have ec : c = u := by injection e with e; have := congrArg Array.toList e; simpa using this
  subst ec
  refine ⟨c, b, off, r1, r2, r3, r4, ?_⟩
  have := r5 0 c rfl
  rwa [Nat.mul_one, Nat.add_zero] at this
def dFull1 (R : Rel α) [Good R] (xs : List α) : Dat where
  rd := fun I w v => Arr R I w v xs ∧ ∃ a, v = .slice (some a) xs.length xs.length
  weak := fun ⟨h, k⟩ q => ⟨Good.weak (R := Arr R) h q, k⟩
  move := fun ⟨h, k⟩ q => ⟨Good.move (R := Arr R) h q, k⟩
  bound := fun ⟨h, k⟩ => ⟨Good.bound (R := Arr R) h, k⟩
theorem full1_k [Good R] {xs : List α} : (dFull1 R xs).le (dFullK 1 (R1 R) xs) := fun I w v h => ⟨arr_k1 I w v h.1, h.2⟩
end
section
variable {P : Program} {ops : Array Oper} {hp : List HObj} {fr : List Dat}
variable {dst : Option Tmp} {ty : TypeId} {ps : String} {af : Array Edge} {g : Option (Nat × Bool)}
variable {t e : TypeId} {bytes : Nat} {z : Value} {ag : Bool}
theorem SY.full1 (E : ElT P t e 1 z bytes ag) {α : Type} {R : Rel α} {_gR : Good R} {len : Nat} {parts : Array (Nat × Operand)} {els : List α} (hx : ElsD fr R (parts.toList.map Prod.snd) els) (hparts : parts.toList = ((parts.toList.map Prod.snd).zipIdx).map (fun p => (p.2, p.1))) (hl : len = els.length) (hs : ∀ a, (dS R a).Shape 1 false) (hsm : els.length * 1 ≤ 16777216) :
    SY P ops hp { dst := dst, op := .buildSlice t len parts, type := ty, pos := ps, after := af, guard := g } fr (dFull1 R els) := SY.valE fun {P0 B w0 w a} hh ho => by
  obtain ⟨css, hr, hcl, hcn, hel⟩ := build_core E hx hl hparts hs hsm hh ho
  refine ⟨_, _, hr, Ext.of_alloc _ _, ⟨some ⟨w.heap.size, 0, none⟩, els.length, rfl, Nat.le_refl _, by simp only [maxLen]; omega, fun k hk => ?_⟩, _, rfl⟩
  have hkc : k < css.length := by omega
  obtain ⟨u, hu, hR⟩ := hel k css[k] els[k] (List.getElem?_eq_getElem hkc) (List.getElem?_eq_getElem hk)
  simp only [Bool.false_eq_true, if_false] at hu
  have hm := hcn css[k] (List.getElem_mem hkc)
  have h1 : u.oneCell' = true := hm.2 u (by rw [hu]; simp)
  refine ⟨u, w.heap.size, 0, Good.ext (R := R) hR (Ext.of_alloc _ _), h1, rfl, hh.fresh (Nat.le_refl _), ?_⟩
  rw [cell_of_row _ _ _ _ _ _ (alloc_get w _), Nat.zero_add]
  have := flatten_get (k := k) (j := 0) (c := u) (fun u hu => (hcn u hu).1) hkc (by rw [hu]; rfl)
  simpa using this
theorem SY.appFull1 {s y : Operand} (E : ElT P t e 1 z bytes ag) {α : Type} {R : Rel α} {_gR : Good R} {xs ys : List α} (hs : OpD fr s (dFull1 R xs)) (hy : OpD fr y (dS (Arr R) ys)) (hby : 0 < bytes) (hlen : (xs.length + ys.length) * bytes ≤ 140737488355328) :
    SY P ops hp { dst := dst, op := .call { callee := .builtin .append, args := #[s, y], argTypes := #[t, t] }, type := ty, pos := ps, after := af, guard := g } fr (dS (Arr R) (xs ++ ys)) :=
  (SY.appFullK E (hs.mono full1_k) (hy.mono arr_k1) hby hlen).mono k1_arr
end
end Go.Proofs.YtgppfikidagfpaaGreatDoor
namespace Go.Proofs.YtgppfikidagfpaaGreatDoor.I
open Go.RowKit
theorem oper_wide {P : Program} {o : Oper} {a : Act} {w : World} {K : Act → World → Prop} {Q : Exit → Act → World → Prop} (h : o.wp P a w K Q) : o.wpIn Fence.wide 0 P a w K Q := by
  refine ⟨fun _ _ => trivial, ?_⟩
  show o.uponIn Fence.wide 0 P a K Q ((execOp a.eval o).run P w)
  unfold Oper.wp at h
  revert h
  generalize (execOp a.eval o).run P w = r
  intro h
  unfold Oper.upon at h
  unfold Oper.uponIn
  split at h
  · exact h
  · exact h
  · exact h
  · exact ⟨fun h => by simp [Fence.wide] at h, callsIn_wide.2 h⟩
  · exact ⟨fun h => by simp [Fence.wide] at h, fun c cs _ => let ⟨v, w2, r, s⟩ := h c cs; ⟨v, w2, r, stepsIn_wide.2 s⟩⟩
  · exact h
  · exact h.elim
theorem wpListIn_plainW {P : Program} {ops : Array Oper} {Q : Exit → Act → World → Prop} {rest : List Oper} {o : Oper} {a : Act} {w : World} (hg : o.guard = none)
    (h : ∀ K : Act → World → Prop, (∀ a w, wpListIn Fence.wide 0 P ops Q rest a w → K a w) → o.wp P a w K Q) : wpListIn Fence.wide 0 P ops Q (o :: rest) a w :=
  wpListIn_plain hg fun K hK => oper_wide (h K hK)
end Go.Proofs.YtgppfikidagfpaaGreatDoor.I
namespace Go.Proofs.YtgppfikidagfpaaGreatDoor

abbrev Vx := Int × Int
def cmpV (a b : Vx) : Int := if a.1 < b.1 then -1 else if b.1 < a.1 then 1 else if a.2 < b.2 then -1 else if b.2 < a.2 then 1 else 0
def rngV (v : Vx) : Bool := decide (0 ≤ v.1) && decide (v.1 < 8) && decide (0 ≤ v.2) && decide (v.2 ≤ 1048576)
def cmpL : List Vx → List Vx → Int
  | [], [] => 0
  | [], _ :: _ => -1
  | _ :: _, [] => 1
  | x :: a, y :: b => if cmpV x y = 0 then cmpL a b else cmpV x y
def chkG : Option Vx → List Vx → Int
  | _, [] => 0
  | p, v :: s => if rngV v = false then 2 else if (match p with | some u => decide (0 ≤ cmpV u v) | none => false) = true then 14 else chkG (some v) s
def chkV (s : List Vx) : Int := if s.length = 0 then 16 else if 8 < s.length then 5 else chkG none s
def insV : List Vx → Vx → List Vx
  | [], v => [v]
  | u :: s, v => if cmpV v u < 0 then v :: u :: s else u :: insV s v
def putV (s : List Vx) (v : Vx) : List Vx := if v ∈ s then s else insV s v

theorem cmpV_cases (a b : Vx) : (cmpV a b = -1 ∧ cmpV b a = 1) ∨ (cmpV a b = 1 ∧ cmpV b a = -1) ∨ (cmpV a b = 0 ∧ cmpV b a = 0 ∧ a = b) := by
  obtain ⟨x, y⟩ := a
  obtain ⟨u, v⟩ := b
  simp only [cmpV, Prod.mk.injEq]
  repeat' split
  all_goals omega
theorem cmpV_eq {a b : Vx} : cmpV a b = 0 ↔ a = b := by
  constructor
  · intro h
    rcases cmpV_cases a b with h' | h' | h'
    · omega
    · omega
    · exact h'.2.2
  · rintro rfl
    rcases cmpV_cases a a with h' | h' | h' <;> omega
theorem cmpV_neg (a b : Vx) : cmpV b a = - cmpV a b := by
  rcases cmpV_cases a b with h' | h' | h' <;> omega
theorem cmpV_trans {a b c : Vx} (h : cmpV a b < 0) (h' : cmpV b c < 0) : cmpV a c < 0 := by
  obtain ⟨x, y⟩ := a
  obtain ⟨u, v⟩ := b
  obtain ⟨p, q⟩ := c
  revert h h'
  simp only [cmpV]
  repeat' split
  all_goals omega

def Asc (s : List Vx) : Prop := s.Pairwise fun a b => cmpV a b < 0

theorem asc_ext : ∀ {a b : List Vx}, Asc a → Asc b → (∀ x, x ∈ a ↔ x ∈ b) → a = b
  | [], [], _, _, _ => rfl
  | [], y :: b, _, _, h => absurd ((h y).2 (by simp)) (by simp)
  | x :: a, [], _, _, h => absurd ((h x).1 (by simp)) (by simp)
  | x :: a, y :: b, ha, hb, h => by
    unfold Asc at ha hb
    rw [List.pairwise_cons] at ha hb
    have hxy : x = y := by
      have h1 := (h x).1 (by simp)
      have h2 := (h y).2 (by simp)
      rw [List.mem_cons] at h1 h2
      rcases h1 with h1 | h1
      · exact h1
      rcases h2 with h2 | h2
      · exact h2.symm
      have h3 := hb.1 x h1
      have h4 := ha.1 y h2
      have := cmpV_neg x y
      omega
    subst hxy
    congr 1
    refine asc_ext ha.2 hb.2 fun z => ?_
    have hz := h z
    rw [List.mem_cons, List.mem_cons] at hz
    have hne : ∀ {l : List Vx}, (∀ a ∈ l, cmpV x a < 0) → z ∈ l → z ≠ x := by
      intro l hl hm he
      subst he
      have := hl z hm
      rw [cmpV_eq.2 rfl] at this
      omega
    constructor
    · intro hm
      rcases hz.1 (.inr hm) with h1 | h1
      · exact absurd h1 (hne ha.1 hm)
      · exact h1
    · intro hm
      rcases hz.2 (.inr hm) with h1 | h1
      · exact absurd h1 (hne hb.1 hm)
      · exact h1

theorem mem_insV : ∀ {s : List Vx} {v x : Vx}, x ∈ insV s v ↔ x = v ∨ x ∈ s
  | [], v, x => by simp [insV]
  | u :: s, v, x => by
    unfold insV
    split
    · simp
    · rw [List.mem_cons, mem_insV, List.mem_cons]
      constructor
      · rintro (h | h | h) <;> simp [h]
      · rintro (h | h | h) <;> simp [h]
theorem mem_putV {s : List Vx} {v x : Vx} : x ∈ putV s v ↔ x = v ∨ x ∈ s := by
  unfold putV
  split
  · rename_i h
    constructor
    · exact fun hx => .inr hx
    · rintro (rfl | hx)
      · exact h
      · exact hx
  · exact mem_insV
theorem asc_insV : ∀ {s : List Vx} {v : Vx}, Asc s → v ∉ s → Asc (insV s v)
  | [], v, _, _ => by simp [insV, Asc]
  | u :: s, v, hs, hv => by
    unfold Asc at hs
    have hs' := hs
    rw [List.pairwise_cons] at hs
    unfold insV
    split
    · rename_i hlt
      unfold Asc
      rw [List.pairwise_cons]
      refine ⟨fun y hy => ?_, hs'⟩
      rw [List.mem_cons] at hy
      rcases hy with rfl | hy
      · exact hlt
      · exact cmpV_trans hlt (hs.1 y hy)
    · rename_i hge
      unfold Asc
      rw [List.pairwise_cons]
      refine ⟨fun y hy => ?_, asc_insV hs.2 fun h => hv (List.mem_cons_of_mem _ h)⟩
      rw [mem_insV] at hy
      rcases hy with rfl | hy
      · have hne : y ≠ u := fun h => hv (by rw [h]; simp)
        rcases cmpV_cases u y with h | h | h
        · omega
        · omega
        · exact absurd h.2.2.symm hne
      · exact hs.1 y hy
theorem asc_putV {s : List Vx} {v : Vx} (hs : Asc s) : Asc (putV s v) := by
  unfold putV
  split
  · exact hs
  · exact asc_insV hs (by assumption)

def allV (s : List Vx) (l : List Vx) : List Vx := l.foldl putV s
theorem asc_allV : ∀ {l s : List Vx}, Asc s → Asc (allV s l)
  | [], _, h => h
  | _ :: l, _, h => asc_allV (l := l) (asc_putV h)
theorem mem_allV : ∀ {l s : List Vx} {x : Vx}, x ∈ allV s l ↔ x ∈ s ∨ x ∈ l
  | [], s, x => by simp [allV]
  | v :: l, s, x => by
    show x ∈ allV (putV s v) l ↔ _
    rw [mem_allV, mem_putV, List.mem_cons]
    constructor
    · rintro ((h | h) | h) <;> simp [h]
    · rintro (h | h | h) <;> simp [h]

def insideV (a b : List Vx) : Bool := a.all fun x => decide (x ∈ b)
def subsV : Nat → List Vx → List (List Vx)
  | 0, _ => [[]]
  | _ + 1, [] => []
  | k + 1, v :: s => (subsV k s).map (v :: ·) ++ subsV (k + 1) s
def facesV (s : List Vx) (k : Int) : List (List Vx) × Int := if chkV s ≠ 0 then ([], chkV s) else if k < 1 ∨ (s.length : Int) < k then ([], 2) else (subsV k.toNat s, 0)
def sharedV (a b : List Vx) (p : Bool) : List Vx := a.filter fun x => decide (x ∈ b) == p
def diffV : List Vx → Bool
  | [] => true
  | [_] => true
  | u :: v :: s => if u.1 = v.1 then false else diffV (v :: s)
def chromV (s : List Vx) : Bool × Int := if chkV s ≠ 0 then (false, chkV s) else (diffV s, 0)

theorem drop_cons' {α : Type} {l : List α} {k : Nat} (h : k < l.length) : l.drop k = l[k] :: l.drop (k + 1) := List.drop_eq_getElem_cons h
theorem take_snoc' {α : Type} {l : List α} {k : Nat} (h : k < l.length) : l.take (k + 1) = l.take k ++ [l[k]] := List.take_succ_eq_append_getElem h
theorem cmpL_drop (a b : List Vx) (k : Nat) : cmpL (a.drop k) (b.drop k) = if h : k < a.length then (if h' : k < b.length then (if cmpV a[k] b[k] = 0 then cmpL (a.drop (k + 1)) (b.drop (k + 1)) else cmpV a[k] b[k]) else 1) else if k < b.length then -1 else 0 := by
  by_cases h : k < a.length
  · by_cases h' : k < b.length
    · rw [dif_pos h, dif_pos h', drop_cons' h, drop_cons' h']; rfl
    · rw [dif_pos h, dif_neg h', drop_cons' h, List.drop_of_length_le (l := b) (by omega)]; rfl
  · by_cases h' : k < b.length
    · rw [dif_neg h, if_pos h', drop_cons' h', List.drop_of_length_le (l := a) (by omega)]; rfl
    · rw [dif_neg h, if_neg h', List.drop_of_length_le (l := b) (by omega), List.drop_of_length_le (l := a) (by omega)]; rfl
theorem chkG_drop (s : List Vx) (k : Nat) (h : k < s.length) : chkG (s.take k).getLast? (s.drop k) = if rngV s[k] = false then 2 else if (match (s.take k).getLast? with | some u => decide (0 ≤ cmpV u s[k]) | none => false) = true then 14 else chkG (s.take (k + 1)).getLast? (s.drop (k + 1)) := by
  have e : (s.take (k + 1)).getLast? = some s[k] := by rw [take_snoc' h, List.getLast?_append]; rfl
  rw [drop_cons' h, e]
  rfl
theorem last_take (s : List Vx) (k : Nat) (h : k < s.length) (h0 : 0 < k) : (s.take k).getLast? = some s[k - 1] := by
  obtain ⟨j, rfl⟩ : ∃ j, k = j + 1 := ⟨k - 1, by omega⟩
  rw [take_snoc' (by omega), List.getLast?_append]; rfl

theorem cmpL_step {a b : List Vx} {k : Nat} (h : k < a.length) (h' : k < b.length) (hc : cmpV a[k] b[k] = 0) : cmpL (a.drop k) (b.drop k) = cmpL (a.drop (k + 1)) (b.drop (k + 1)) := by rw [cmpL_drop, dif_pos h, dif_pos h', if_pos hc]
theorem mem_take_snoc {α : Type} {l : List α} {k : Nat} (h : k < l.length) {x : α} : x ∈ l.take (k + 1) ↔ x ∈ l.take k ∨ x = l[k] := by rw [take_snoc' h, List.mem_append, List.mem_singleton]
theorem cmpL_eq : ∀ {a b : List Vx}, cmpL a b = 0 ↔ a = b
  | [], [] => by simp [cmpL]
  | [], _ :: _ => by simp [cmpL]
  | _ :: _, [] => by simp [cmpL]
  | x :: a, y :: b => by
    unfold cmpL
    by_cases h : cmpV x y = 0
    · rw [if_pos h, cmpL_eq]
      simp [cmpV_eq.1 h]
    · rw [if_neg h]
      have : x ≠ y := fun e => h (cmpV_eq.2 e)
      simp [h, this]
theorem diffV_step {s : List Vx} {k : Nat} (h0 : 1 ≤ k) (h : k < s.length) : diffV (s.drop (k - 1)) = if (s[k - 1]'(by omega)).1 = s[k].1 then false else diffV (s.drop k) := by
  obtain ⟨j, rfl⟩ : ∃ j, k = j + 1 := ⟨k - 1, by omega⟩
  have e : j + 1 - 1 = j := by omega
  simp only [e]
  rw [drop_cons' (by omega : j < s.length), drop_cons' h]
  rfl

theorem subsV_short : ∀ (k : Nat) (s : List Vx), s.length < k → subsV k s = []
  | 0, _, h => by omega
  | _ + 1, [], _ => rfl
  | k + 1, v :: s, h => by
    simp only [List.length_cons] at h
    unfold subsV
    rw [subsV_short k s (by omega), subsV_short (k + 1) s (by omega)]
    rfl
theorem subsV_len : ∀ (k : Nat) (s : List Vx), (subsV k s).length ≤ 2 ^ s.length
  | 0, s => by simp [subsV]; exact Nat.one_le_two_pow
  | _ + 1, [] => by simp [subsV]
  | k + 1, v :: s => by
    have h1 := subsV_len k s
    have h2 := subsV_len (k + 1) s
    unfold subsV
    rw [List.length_append, List.length_map, List.length_cons, Nat.pow_succ]
    omega
theorem subsV_drop (k : Nat) (s : List Vx) (i : Nat) (h : i < s.length) : subsV (k + 1) (s.drop i) = (subsV k (s.drop (i + 1))).map (s[i] :: ·) ++ subsV (k + 1) (s.drop (i + 1)) := by
  rw [drop_cons' h]; rfl
theorem asc_cons2 {u v : Vx} {s : List Vx} : Asc (u :: v :: s) ↔ cmpV u v < 0 ∧ Asc (v :: s) := by
  unfold Asc
  rw [List.pairwise_cons]
  constructor
  · rintro ⟨h1, h2⟩
    exact ⟨h1 v (by simp), h2⟩
  · rintro ⟨h1, h2⟩
    refine ⟨fun y hy => ?_, h2⟩
    rw [List.mem_cons] at hy
    rcases hy with rfl | hy
    · exact h1
    · exact cmpV_trans h1 ((List.pairwise_cons.1 h2).1 y hy)
theorem chkG_zero : ∀ (s : List Vx) (p : Option Vx), chkG p s = 0 ↔ (∀ v ∈ s, rngV v = true) ∧ Asc (p.toList ++ s)
  | [], none => by simp [chkG, Asc]
  | [], some u => by simp [chkG, Asc]
  | v :: s, p => by
    unfold chkG
    by_cases h1 : rngV v = false
    · rw [if_pos h1]
      simp [h1]
    · rw [if_neg h1]
      have h1' : rngV v = true := by simpa using h1
      cases p with
      | none =>
        simp only [Bool.false_eq_true, if_false]
        rw [chkG_zero s (some v)]
        simp [h1']
      | some u =>
        by_cases h2 : 0 ≤ cmpV u v
        · simp only [h2, decide_true, if_true]
          have : ¬ Asc (u :: v :: s) := fun h => by have := (asc_cons2.1 h).1; omega
          simp [this]
        · simp only [h2, decide_false, Bool.false_eq_true, if_false]
          rw [chkG_zero s (some v)]
          simp [h1', asc_cons2]
          omega
theorem chkV_zero {s : List Vx} : chkV s = 0 ↔ s.length ≠ 0 ∧ s.length ≤ 8 ∧ (∀ v ∈ s, rngV v = true) ∧ Asc s := by
  unfold chkV
  by_cases h1 : s.length = 0
  · rw [if_pos h1]; simp [h1]
  · rw [if_neg h1]
    by_cases h2 : 8 < s.length
    · rw [if_pos h2]
      simp
      omega
    · rw [if_neg h2, chkG_zero]
      simp only [Option.toList_none, List.nil_append]
      constructor
      · rintro ⟨h3, h4⟩; exact ⟨h1, by omega, h3, h4⟩
      · rintro ⟨_, _, h3, h4⟩; exact ⟨h3, h4⟩
theorem rngV_iff {v : Vx} : rngV v = true ↔ 0 ≤ v.1 ∧ v.1 < 8 ∧ 0 ≤ v.2 ∧ v.2 ≤ 1048576 := by
  unfold rngV
  simp [and_assoc]

end Go.Proofs.YtgppfikidagfpaaGreatDoor
namespace Go.Proofs.YtgppfikidagfpaaGreatDoor
open Go.RowKit
def encV (x : Vx) : List Value := [.int .i64 x.1, .int .i64 x.2]
theorem us_encV {P : Nat → Prop} {w : World} {us : List (List Value)} {xs : List Vx} {v : Value} (hl : us.length = xs.length) (h : ∀ k (h : k < us.length) (h' : k < xs.length), RV (fun b => P b ∧ v.ownBlock ≠ some b) w (.agg us[k].toArray) xs[k]) : us = xs.map encV := by
  apply List.ext_getElem (by simp [hl])
  intro k h1 h2
  have := h k h1 (by omega)
  have h3 : Value.agg us[k].toArray = .agg #[.int .i64 xs[k].1, .int .i64 xs[k].2] := this
  injection h3 with h3
  rw [List.getElem_map]
  exact List.toArray_inj h3
end Go.Proofs.YtgppfikidagfpaaGreatDoor
namespace Go.Proofs.YtgppfikidagfpaaGreatDoor
open Go.RowKit

def flatV (xs : List Vx) : List Value := (xs.map encV).flatten
theorem flatV_cons (x : Vx) (l : List Vx) : flatV (x :: l) = .int .i64 x.1 :: .int .i64 x.2 :: flatV l := rfl
theorem flatV_len : ∀ (l : List Vx), (flatV l).length = l.length * 2
  | [] => rfl
  | x :: l => by rw [flatV_cons]; simp only [List.length_cons, flatV_len l]; omega
theorem flatV_app (a b : List Vx) : flatV (a ++ b) = flatV a ++ flatV b := by unfold flatV; rw [List.map_append, List.flatten_append]
def RowAt (w : World) (g cap : Nat) (e : TypeId) (xs : List Vx) : Prop :=
  ∃ tl : List Value, w.heap[g]? = some (.cells (flatV xs ++ tl).toArray e (0, 0)) ∧ xs.length ≤ cap ∧ cap ≤ maxLen ∧ (flatV xs ++ tl).length = cap * 2
abbrev rowV (g cap : Nat) (xs : List Vx) : Value := .slice (some ⟨g, 0, none⟩) xs.length cap
theorem ownK_rowAt {e : TypeId} {I : Nat → Prop} {w : World} {g cap : Nat} {xs : List Vx} : OwnK 0 e 2 RV I w (rowV g cap xs) xs ↔ RowAt w g cap e xs := by
  constructor
  · rintro ⟨us, h1, h2, h0, h3, h4⟩
    have hus := us_encV h1 h4
    subst hus
    obtain ⟨hfl, hv⟩ := h3
    rcases hv with ⟨hz, _⟩ | ⟨g', cap', cur, hv, hB, hg, hc1, hc2, hc3, hc4⟩
    · cases hz
    · cases hv
      refine ⟨cur.toList.drop (xs.length * 2), ?_, hc1, hc2, ?_⟩
      · have : flatV xs ++ cur.toList.drop (xs.length * 2) = cur.toList := by
          unfold flatV; rw [← hc4, List.take_append_drop]
        rw [this]; exact hg
      · have : flatV xs ++ cur.toList.drop (xs.length * 2) = cur.toList := by
          unfold flatV; rw [← hc4, List.take_append_drop]
        rw [this]; simpa using hc3
  · rintro ⟨tl, hg, hc1, hc2, hc3⟩
    refine ⟨xs.map encV, by simp, fun u hu => ?_, by decide, ⟨?_, .inr ⟨g, cap, _, rfl, Nat.zero_le _, hg, hc1, hc2, by simpa using hc3, ?_⟩⟩, fun k h h' => ?_⟩
    · obtain ⟨y, _, rfl⟩ := List.mem_map.1 hu
      exact ⟨rfl, by simp [encV, Value.oneCell']⟩
    · exact flatV_len xs
    · show (flatV xs ++ tl).take (xs.length * 2) = flatV xs
      rw [← flatV_len xs, List.take_left']
      rfl
    · show Value.agg _ = _
      rw [List.getElem_map]
      rfl
theorem heap_setCells_mid {g : Nat} {e : TypeId} {fz : Nat × Nat} : ∀ (vs M A C : List Value) (w : World), M.length = vs.length → w.heap[g]? = some (.cells (A ++ M ++ C).toArray e fz) → (w.setCells g A.length vs).heap[g]? = some (.cells (A ++ vs ++ C).toArray e fz)
  | [], M, A, C, w, h, hg => by
    have : M = [] := List.eq_nil_of_length_eq_zero (by simpa using h)
    subst this; exact hg
  | v :: r, [], A, C, w, h, hg => by simp at h
  | v :: r, m :: M, A, C, w, h, hg => by
    have hg' : (w.setCell ⟨g, A.length, none⟩ v).heap[g]? = some (.cells ((A ++ [v]) ++ M ++ C).toArray e fz) := by
      simp only [World.setCell, Array.getElem?_modify, if_true, hg, Option.map_some]
      simp
    have := heap_setCells_mid r M (A ++ [v]) C _ (by simpa using h) hg'
    rw [World.setCells]
    have e1 : (A ++ [v]).length = A.length + 1 := by simp
    rw [e1] at this
    rw [this]; simp
theorem row_grown {w : World} {g o : Nat} {vs : List Value} : w.grownBy (w.setCells g o vs) (some g) := by
  refine ⟨World.os_setCells w g o vs, ?_, World.output_setCells w g o vs, ?_, fun k hk hne => World.heap_setCells_other w g o vs hk fun e => hne (by rw [e])⟩
  · revert o w
    induction vs with
    | nil => intros; rfl
    | cons v r ih => intro w o; rw [World.setCells]; exact ih
  · revert o w
    induction vs with
    | nil => intros; exact Nat.le_refl _
    | cons v r ih =>
      intro w o; rw [World.setCells]
      refine Nat.le_trans ?_ ih
      simp [World.setCell]
theorem row_cell {w : World} {g cap : Nat} {e : TypeId} {xs : List Vx} (h : RowAt w g cap e xs) (j : Nat) (hj : j < xs.length * 2) : w.cell? ⟨g, j, none⟩ = (flatV xs)[j]? ∧ w.frozen? ⟨g, j, none⟩ = false := by
  obtain ⟨tl, hg, _⟩ := h
  refine ⟨?_, by simp [World.frozen?, hg]⟩
  simp only [World.cell?, hg]
  simp only [Option.isSome_none, Bool.false_eq_true, if_false]
  rw [List.getElem?_toArray, List.getElem?_append_left (by rw [flatV_len]; exact hj)]
section
variable {P : Program} {ops : Array Oper} {hp : List HObj} {o : Oper} {fr : List Dat} {d : Dat} {Q : Post} {rest : List Oper}
variable {dst : Option Tmp} {ty : TypeId} {ps : String} {af : Array Edge} {g : Option (Nat × Bool)} {b cap : Nat} {e t T : TypeId} {xs : List Vx} {bytes : Nat} {z : Value} {ag : Bool}
abbrev hV (b N cap : Nat) (e : TypeId) (xs : List Vx) : HObj := hRowK (.slice (some ⟨b, 0, none⟩) N cap) e 2 RV xs
theorem hV_row {I : Nat → Prop} {w : World} {N : Nat} : (hV b N cap e xs).ok I w ↔ N = xs.length ∧ RowAt w b cap e xs := by
  constructor
  · intro h
    have hN : N = xs.length := by
      obtain ⟨us, h1, h2, h0, ⟨_, h3⟩, h4⟩ := h
      rcases h3 with ⟨hz, _⟩ | ⟨g, cap, cur, hv, _⟩
      · cases hz
      · cases hv; rfl
    subst hN
    exact ⟨rfl, ownK_rowAt.1 h⟩
  · rintro ⟨rfl, h⟩
    exact ownK_rowAt.2 h
theorem SY.fromO {x y : Operand} {off n m l : Nat} {j : Int} (E : ElT P t e 2 z bytes ag) (hx : OpD fr x (dX (.slice (some ⟨b, off, none⟩) n m))) (hy : OpD fr y (dI j)) (hj : j = (l : Int)) (hl : l < n) (hm : n ≤ m) :
    SY P ops hp { dst := dst, op := .slice t x (some y) none none, type := ty, pos := ps, after := af, guard := g } fr (dX (.slice (some ⟨b, off + l * 2, none⟩) (n - l) (m - l))) := SY.val fun {I w a} ho => by
  have h1 : a.eval x = _ := hx.get (by simp [Op.operands]) ho
  have h2 : a.eval y = _ := hy.get (by simp [Op.operands]) ho
  refine ⟨_, ?_, rfl⟩
  have hr := run_slice (w := w) (ad := some ⟨b, off, none⟩) (len := n) (cap := m) (lo := some (.int .i64 (l : Int))) (hi := none) (l := l) (h := n) E (.inr ⟨_, rfl⟩) (.inl ⟨rfl, rfl⟩) (by omega) hm
  rw [if_neg (by omega)] at hr
  unfold execOp
  simp only [h1, h2, hj, Option.map_none, Option.map_some, Sem.run_bind, hr, Result.andThen_ok, Sem.run_pure]
  simp [Addr.add_lit]
theorem WC.cutO {c : Code} {N k : Nat} (hk : k ≤ xs.length) (h : WC P Q c fr (hV b k cap e (xs.take k) :: hp)) : WC P Q c fr (hV b N cap e xs :: hp) := WC.of fun P0 B w0 w a hh hf => by
  obtain ⟨hN, tl, hg, hc1, hc2, hc3⟩ := hV_row.1 (hh.ok (hV b N cap e xs) (by simp))
  have hgr : w.grownBy w (hV b N cap e xs).blk := ⟨rfl, rfl, rfl, Nat.le_refl _, fun _ _ _ => rfl⟩
  have e1 : flatV xs ++ tl = flatV (xs.take k) ++ (flatV (xs.drop k) ++ tl) := by rw [← List.append_assoc, ← flatV_app, List.take_append_drop]
  have hok : (hV b k cap e (xs.take k)).ok (fun j => Imm P0 B (hV b N cap e xs :: hp) j ∧ j < w.heap.size) w :=
    hV_row.2 ⟨by simp; omega, flatV (xs.drop k) ++ tl, by rw [← e1]; exact hg, by simp; omega, hc2, by rw [← e1]; exact hc3⟩
  exact h.on (hh.write hgr (.inl rfl) hok) (hf.mono fun _ _ hd => Hp.written (o' := hV b k cap e (xs.take k)) hgr (.inl rfl) hd)
end
end Go.Proofs.YtgppfikidagfpaaGreatDoor
