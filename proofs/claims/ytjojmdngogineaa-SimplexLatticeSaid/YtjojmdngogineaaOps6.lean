/-
  Function values that may be called: what they do, and that a call enters them. No program is named here.
-/
import Derived.Test.YtjojmdngogineaaOps5
namespace Go.Proofs.Ytjojmdngogineaa
open Go.RowKit
/-- a call of this function enters it -/
def Enters (P : Program) (f : FuncId) : Prop := ∀ (args : Array Value) (w : World), (callFunc f args).run P w = .ok (.enter f args) w
/-- a function value: a call enters it, and does so and so, in every world in which what it has caught lies as it lay -/
def dFun (P : Program) {α : Type} (A : α → List Dat) (r : α → Dat) : Dat where
  rd := fun I w v => ∃ f cap, v = .func (.func f) #[] cap ∧ Enters P f ∧ ∀ w', (∀ k, I k → k < w.heap.size → w'.heap[k]? = w.heap[k]?) → ∀ (x : α) (I' : Nat → Prop) (vs : List Value), vs.length = (A x).length → (∀ (i : Nat) (d : Dat), (A x)[i]? = some d → d.rd I' w' (vs.getD i undef)) →
    Calls P f (vs.toArray ++ cap) w' fun e w'' => ∃ u, e = .returned u ∧ Ext w' w'' ∧ (r x).rd (fun b => I' b ∨ w'.heap.size ≤ b) w'' u
  weak := fun ⟨f, cap, h1, h0, h2⟩ q => ⟨f, cap, h1, h0, fun w' hw' => h2 w' fun k hk => hw' k (q k hk)⟩
  move := fun {P w w2 v} ⟨f, cap, h1, h0, h2⟩ q => ⟨f, cap, h1, h0, fun w' hw' => h2 w' fun k hk hlt => by
    have h3 := q k hk hlt
    have hlt2 : k < w2.heap.size := by
      have : (w2.heap[k]?).isSome = true := by rw [h3]; simp [hlt]
      exact (Array.getElem?_eq_some_iff.1 (Option.isSome_iff_exists.1 this).choose_spec).1
    exact (hw' k hk hlt2).trans h3⟩
  bound := fun ⟨f, cap, h1, h0, h2⟩ => ⟨f, cap, h1, h0, fun w' hw' => h2 w' fun k hk hlt => hw' k ⟨hk, hlt⟩ hlt⟩
section
variable {P : Program} {ops : Array Oper} {hp : List HObj} {o : Oper} {fr : List Dat} {d : Dat} {dst : Option Tmp} {ty : TypeId} {ps : String} {af : Array Edge} {g : Option (Nat × Bool)}
theorem le_fun {f : FuncId} {α : Type} {A : α → List Dat} {r : α → Dat} (he : Enters P f) (h : ∀ x, Fn P f (A x) (r x)) : (dX (.func (.func f) #[] #[])).le (dFun P A r) := fun I w v hv => by
  cases (hv : _ = _)
  refine ⟨f, #[], rfl, he, fun w' _ x I' vs hl hr => ?_⟩
  have := (h x).out I' w' vs hl hr
  simpa using this
theorem SY.dynF {t : Tmp} {args : Array Operand} {ats : Array TypeId} {α : Type} {A : α → List Dat} {r : α → Dat} {x : α} (ht : OpD fr (.tmp t) (dFun P A r)) (ha : ArgsD fr args.toList (A x)) :
    SY P ops hp { dst := dst, op := .call { callee := .value (.tmp t), args := args, argTypes := ats }, type := ty, pos := ps, after := af, guard := g } fr (r x) := SY.mk fun {P0 B w0 w a} hh ho K Q hk => by
  obtain ⟨f, cap, h1, h0, h2⟩ := ht.get (by simp [Op.operands, Call.operands]) ho
  have h3 := h2 w (fun _ _ _ => rfl) x (Imm P0 B hp) (args.toList.map a.eval) (by simpa using ha.1) fun i d hd => by
    have hi : i < args.toList.length := by rw [ha.1]; exact (List.getElem?_eq_some_iff.1 hd).1
    have h2 := ha.2 i _ d (List.getElem?_eq_getElem hi) hd
    have := h2.get (by simp only [Op.operands, Call.operands]; simp) ho
    have hi' : i < args.size := by simpa using hi
    simpa [List.getD, hi'] using this
  have he : (args.toList.map a.eval).toArray = args.map a.eval := by apply Array.ext'; simp
  rw [he] at h3
  unfold Oper.wp
  have h4 := h0 (args.map a.eval ++ cap) w
  have : (execOp a.eval { dst := dst, op := .call { callee := .value (.tmp t), args := args, argTypes := ats }, type := ty, pos := ps, after := af, guard := g }).run P w = .ok (.enter f (args.map a.eval ++ cap)) w := by
    unfold execOp
    simp only [resolve]
    simp [h1, Deferred.ofValue, invoke, h4]
  rw [this]
  exact h3.mono fun e w' ⟨v, he, e1, hd⟩ => by subst he; exact hk v w' e1 ((r x).weak hd fun k hk => hk.elim id hh.fresh)
/-- a closure over cells that stay -/
theorem SY.makeFun {f : FuncId} {caps : Array Operand} {cs : List Dat} {α : Type} {A : α → List Dat} {r : α → Dat} (he : Enters P f) (h : ∀ x, Fn P f (A x ++ cs) (r x)) (hr : ∀ x, (r x).Bare) (ha : ArgsD fr caps.toList cs) :
    SY P ops hp { dst := dst, op := .makeFunc (.func f) #[] caps, type := ty, pos := ps, after := af, guard := g } fr (dFun P A r) := SY.val fun {I w a} ho => by
  refine ⟨.func (.func f) #[] (caps.map a.eval), by unfold execOp; simp [Instr.makeFunc], f, _, rfl, he, fun w' hw' x I' vs hl hv => ?_⟩
  have hcap : ∀ (i : Nat) (d : Dat), cs[i]? = some d → d.rd I w' ((caps.toList.map a.eval).getD i undef) := fun i d hd => by
    have hi : i < caps.toList.length := by rw [ha.1]; exact (List.getElem?_eq_some_iff.1 hd).1
    have h2 := ha.2 i _ d (List.getElem?_eq_getElem hi) hd
    have := h2.get (by simp only [Op.operands]; simp) ho
    have hi' : i < caps.size := by simpa using hi
    have := d.move this hw'
    simpa [List.getD, hi'] using this
  have := (h x).out (fun b => I' b ∨ I b) w' (vs ++ caps.toList.map a.eval) (by have := ha.1; simp at this; simp [hl, this]) fun i d hd => by
    by_cases hi : i < (A x).length
    · rw [List.getElem?_append_left hi] at hd
      have := hv i d hd
      have hi2 : i < vs.length := by omega
      rw [List.getD_eq_getElem?_getD, List.getElem?_append_left hi2, ← List.getD_eq_getElem?_getD]
      exact d.weak this fun _ => .inl
    · rw [List.getElem?_append_right (by omega)] at hd
      have := hcap _ d hd
      rw [List.getD_eq_getElem?_getD, List.getElem?_append_right (by omega), ← List.getD_eq_getElem?_getD, hl]
      exact d.weak this fun _ => .inr
  have he : (vs ++ caps.toList.map a.eval).toArray = vs.toArray ++ caps.map a.eval := by apply Array.ext'; simp
  rw [he] at this
  exact this.mono fun e w'' ⟨u, h1, h2, h3⟩ => ⟨u, h1, h2, hr x _ _ _ _ _ h3⟩
theorem shape_F {α : Type} {A : α → List Dat} {r : α → Dat} : (dFun P A r).Shape 1 false := shape_one fun _ _ _ h => by obtain ⟨f, c, rfl, _⟩ := h; rfl
end
end Go.Proofs.Ytjojmdngogineaa
