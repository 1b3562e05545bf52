/- Part 6: walks by contracts, and plain laws. -/
import Derived.Deep.MidRow
import Derived.Test.YtpiidgcljlalmaaVa5
set_option linter.unusedVariables false
set_option linter.unusedSimpArgs false
set_option linter.unusedSectionVars false
namespace Go.Proofs.Ytpiidgcljlalmaa
open Go.RowKit
def Enters (P : Program) (f : FuncId) : Prop := ∀ (args : Array Value) (w : World), (callFunc f args).run P w = .ok (.enter f args) w
def dFun (P : Program) {α : Type} (A : α → List Dat) (r : α → Dat) : Dat where
  rd := fun I w v => ∃ f cap, v = .func (.func f) #[] cap ∧ Enters P f ∧ ∀ w', (∀ k, I k → k < w.heap.size → w'.heap[k]? = w.heap[k]?) → ∀ (x : α) (I' : Nat → Prop) (vs : List Value), vs.length = (A x).length → (∀ (i : Nat) (d : Dat), (A x)[i]? = some d → d.rd I' w' (vs.getD i undef)) →
    Calls P f (vs.toArray ++ cap) w' fun e w'' => ∃ u, e = .returned u ∧ Ext w' w'' ∧ (r x).rd (fun b => I' b ∨ w'.heap.size ≤ b) w'' u
  weak := fun ⟨f, cap, h1, h0, h2⟩ q => ⟨f, cap, h1, h0, fun w' hw' => h2 w' fun k hk => hw' k (q k hk)⟩
  move := fun {P w w2 v} ⟨f, cap, h1, h0, h2⟩ q => ⟨f, cap, h1, h0, fun w' hw' => h2 w' fun k hk hlt => by
    have h3 := q k hk hlt
    have hlt2 : k < w2.heap.size := by
      have : (w2.heap[k]?).isSome = true := by rw [h3]; simp [hlt]
      exact (Array.getElem?_eq_some_iff.1 (Option.isSome_iff_exists.1 this).choose_spec).1
    exact (hw' k hk hlt2).trans h3⟩
  bound := fun ⟨f, cap, h1, h0, h2⟩ => ⟨f, cap, h1, h0, fun w' hw' => h2 w' fun k hk hlt => hw' k ⟨hk, hlt⟩ hlt⟩
section
variable {P : Program} {ops : Array Oper} {hp : List HObj} {o : Oper} {fr : List Dat} {d : Dat} {dst : Option Tmp} {ty : TypeId} {ps : String} {af : Array Edge} {g : Option (Nat × Bool)}
theorem le_fun {f : FuncId} {α : Type} {A : α → List Dat} {r : α → Dat} (he : Enters P f) (h : ∀ x, Fn P f (A x) (r x)) : (dX (.func (.func f) #[] #[])).le (dFun P A r) := fun I w v hv => by
  cases (hv : _ = _)
  refine ⟨f, #[], rfl, he, fun w' _ x I' vs hl hr => ?_⟩
  have := (h x).out I' w' vs hl hr
  simpa using this
theorem SY.dynF {t : Tmp} {args : Array Operand} {ats : Array TypeId} {α : Type} {A : α → List Dat} {r : α → Dat} {x : α} (ht : OpD fr (.tmp t) (dFun P A r)) (ha : ArgsD fr args.toList (A x)) :
    SY P ops hp { dst := dst, op := .call { callee := .value (.tmp t), args := args, argTypes := ats }, type := ty, pos := ps, after := af, guard := g } fr (r x) := SY.mk fun {P0 B w0 w a} hh ho K Q hk => by
  obtain ⟨f, cap, h1, h0, h2⟩ := ht.get (by simp [Op.operands, Call.operands]) ho
  have h3 := h2 w (fun _ _ _ => rfl) x (Imm P0 B hp) (args.toList.map a.eval) (by simpa using ha.1) fun i d hd => by
    have hi : i < args.toList.length := by rw [ha.1]; exact (List.getElem?_eq_some_iff.1 hd).1
    have h2 := ha.2 i _ d (List.getElem?_eq_getElem hi) hd
    have := h2.get (by simp only [Op.operands, Call.operands]; simp) ho
    have hi' : i < args.size := by simpa using hi
    simpa [List.getD, hi'] using this
  have he : (args.toList.map a.eval).toArray = args.map a.eval := by apply Array.ext'; simp
  rw [he] at h3
  unfold Oper.wp
  have h4 := h0 (args.map a.eval ++ cap) w
  have : (execOp a.eval { dst := dst, op := .call { callee := .value (.tmp t), args := args, argTypes := ats }, type := ty, pos := ps, after := af, guard := g }).run P w = .ok (.enter f (args.map a.eval ++ cap)) w := by
    unfold execOp
    simp only [resolve]
    simp [h1, Deferred.ofValue, invoke, h4]
  rw [this]
  exact h3.mono fun e w' ⟨v, he, e1, hd⟩ => by subst he; exact hk v w' e1 ((r x).weak hd fun k hk => hk.elim id hh.fresh)
theorem shape_F {α : Type} {A : α → List Dat} {r : α → Dat} : (dFun P A r).Shape 1 false := shape_one fun _ _ _ h => by obtain ⟨f, c, rfl, _⟩ := h; rfl
end
end Go.Proofs.Ytpiidgcljlalmaa
namespace Go.Proofs.Ytpiidgcljlalmaa
open Go.RowKit
def hFr (a : Act) (fr : List Dat) : HObj where
  blk := none
  ok := fun I w => ∀ (t : Nat) (d : Dat), fr[t]? = some d → d.rd I w (a.tmps.getD t undef)
  weak := fun h q t d hd => d.weak (h t d hd) q
  bound := fun h t d hd => d.bound (h t d hd)
  move := fun h hg hP _ t d hd => d.grown (h t d hd) hg hP
section
variable {P : Program} {ops : Array Oper} {hp : List HObj} {o : Oper} {fr : List Dat} {d : Dat} {Q : Post} {rest : List Oper}
variable {dst : Option Tmp} {ty : TypeId} {ps : String} {af : Array Edge} {g : Option (Nat × Bool)} {P0 : Nat → Prop} {B : Nat} {w0 w : World}
theorem imm_ghost {gh : HObj} (hg : gh.blk = none) (l : List HObj) (k : Nat) : Imm P0 B (l ++ gh :: hp) k ↔ Imm P0 B (l ++ hp) k := by
  unfold Imm
  refine and_congr Iff.rfl ⟨fun h o ho => h o ?_, fun h o ho => ?_⟩
  · rcases List.mem_append.1 ho with ho | ho
    · exact List.mem_append_left _ ho
    · exact List.mem_append_right _ (List.mem_cons_of_mem _ ho)
  · rcases List.mem_append.1 ho with ho | ho
    · exact h o (List.mem_append_left _ ho)
    · rcases List.mem_cons.1 ho with rfl | ho
      · rw [hg]; simp
      · exact h o (List.mem_append_right _ ho)
theorem Hp.ghost {gh : HObj} (hg : gh.blk = none) {l : List HObj} (h : Hp P0 B w0 (l ++ hp) w) (hok : gh.ok (Imm P0 B (l ++ hp)) w) : Hp P0 B w0 (l ++ gh :: hp) w where
  base := h.base
  below := h.below
  own := fun o ho k hk => by
    rcases List.mem_append.1 ho with ho | ho
    · exact h.own o (List.mem_append_left _ ho) k hk
    · rcases List.mem_cons.1 ho with rfl | ho
      · rw [hg] at hk; cases hk
      · exact h.own o (List.mem_append_right _ ho) k hk
  ok := fun o ho => by
    rcases List.mem_append.1 ho with ho | ho
    · exact o.weak (h.ok o (List.mem_append_left _ ho)) fun k => (imm_ghost hg l k).2
    · rcases List.mem_cons.1 ho with rfl | ho
      · exact o.weak hok fun k => (imm_ghost hg l k).2
      · exact o.weak (h.ok o (List.mem_append_right _ ho)) fun k => (imm_ghost hg l k).2
  apart := by
    have h1 := h.apart
    rw [List.pairwise_append] at h1 ⊢
    refine ⟨h1.1, List.pairwise_cons.2 ⟨fun q _ k hk => (by rw [hg] at hk; cases hk), h1.2.1⟩, fun o ho q hq k hk => ?_⟩
    rcases List.mem_cons.1 hq with rfl | hq
    · rw [hg]; simp
    · exact h1.2.2 o ho q hq k hk
theorem Hp.unghost {gh : HObj} (hg : gh.blk = none) {l : List HObj} (h : Hp P0 B w0 (l ++ gh :: hp) w) : Hp P0 B w0 (l ++ hp) w ∧ gh.ok (Imm P0 B (l ++ hp)) w := by
  have hm : ∀ o, o ∈ l ++ hp → o ∈ l ++ gh :: hp := fun o ho => by
    rcases List.mem_append.1 ho with ho | ho
    · exact List.mem_append_left _ ho
    · exact List.mem_append_right _ (List.mem_cons_of_mem _ ho)
  refine ⟨⟨h.base, h.below, fun o ho => h.own o (hm o ho), fun o ho => o.weak (h.ok o (hm o ho)) fun k => (imm_ghost hg l k).1, ?_⟩, gh.weak (h.ok gh (by simp)) fun k => (imm_ghost hg l k).1⟩
  have h1 := h.apart
  rw [List.pairwise_append] at h1 ⊢
  exact ⟨h1.1, (List.pairwise_cons.1 h1.2.1).2, fun o ho q hq => h1.2.2 o ho q (List.mem_cons_of_mem _ hq)⟩
def finI (t : Nat) (K : Dat → List HObj → Prop) (gh : HObj) (hp : List HObj) : Post := fun e f q => (match e with | .normal | .ret => True | _ => False) ∧ ∃ d hp2, f[t]? = some d ∧ q = hp2 ++ gh :: hp ∧ K d hp2
end
end Go.Proofs.Ytpiidgcljlalmaa
namespace Go.Proofs.Ytpiidgcljlalmaa
open Go.RowKit
structure InC (P : Program) (f : FuncId) (ds : List Dat) (hp1 : List HObj) (K : Dat → List HObj → Prop) : Prop where
  out : ∀ hp : List HObj, ∃ (fn : Func) (c : Code) (t : Tmp), P.funcs[f]? = some fn ∧ fn.body = some c ∧ fn.results = #[.tmp t] ∧ ∀ gh : HObj, gh.blk = none → WC P (finI t K gh hp) c (ds ++ List.replicate (fn.ntmps - ds.length) (dX undef)) (hp1 ++ gh :: hp)
section
variable {P : Program} {ops : Array Oper} {hp : List HObj} {o : Oper} {fr : List Dat} {d : Dat} {Q : Post} {rest : List Oper}
variable {dst : Option Tmp} {ty : TypeId} {ps : String} {af : Array Edge} {g : Option (Nat × Bool)}
theorem InC.intro {f : FuncId} {fn : Func} {c : Code} {t : Tmp} {ds : List Dat} {hp1 : List HObj} {K : Dat → List HObj → Prop} (hf : P.funcs[f]? = some fn) (hb : fn.body = some c) (hr : fn.results = #[.tmp t])
    (h : ∀ (hp : List HObj) (gh : HObj), gh.blk = none → WC P (finI t K gh hp) c (ds ++ List.replicate (fn.ntmps - ds.length) (dX undef)) (hp1 ++ gh :: hp)) : InC P f ds hp1 K := ⟨fun hp => ⟨fn, c, t, hf, hb, hr, h hp⟩⟩
end
end Go.Proofs.Ytpiidgcljlalmaa
namespace Go.Proofs.Ytpiidgcljlalmaa.I
open Go.RowKit
theorem oper_wide {P : Program} {o : Oper} {a : Act} {w : World} {K : Act → World → Prop} {Q : Exit → Act → World → Prop} (h : o.wp P a w K Q) : o.wpIn Fence.wide 0 P a w K Q := by
  refine ⟨fun _ _ => trivial, ?_⟩
  show o.uponIn Fence.wide 0 P a K Q ((execOp a.eval o).run P w)
  unfold Oper.wp at h
  revert h
  generalize (execOp a.eval o).run P w = r
  intro h
  unfold Oper.upon at h
  unfold Oper.uponIn
  split at h
  · exact h
  · exact h
  · exact h
  · exact ⟨fun h => by simp [Fence.wide] at h, callsIn_wide.2 h⟩
  · exact ⟨fun h => by simp [Fence.wide] at h, fun c cs _ => let ⟨v, w2, r, s⟩ := h c cs; ⟨v, w2, r, stepsIn_wide.2 s⟩⟩
  · exact h
  · exact h.elim
theorem wpListIn_plainW {P : Program} {ops : Array Oper} {Q : Exit → Act → World → Prop} {rest : List Oper} {o : Oper} {a : Act} {w : World} (hg : o.guard = none)
    (h : ∀ K : Act → World → Prop, (∀ a w, wpListIn Fence.wide 0 P ops Q rest a w → K a w) → o.wp P a w K Q) : wpListIn Fence.wide 0 P ops Q (o :: rest) a w :=
  wpListIn_plain hg fun K hK => oper_wide (h K hK)
end Go.Proofs.Ytpiidgcljlalmaa.I
namespace Go.Proofs.Ytpiidgcljlalmaa

abbrev Vx := Int × Int
end Go.Proofs.Ytpiidgcljlalmaa
namespace Go.Proofs.Ytpiidgcljlalmaa
open Go.RowKit

theorem heap_setCells_mid {g : Nat} {e : TypeId} {fz : Nat × Nat} : ∀ (vs M A C : List Value) (w : World), M.length = vs.length → w.heap[g]? = some (.cells (A ++ M ++ C).toArray e fz) → (w.setCells g A.length vs).heap[g]? = some (.cells (A ++ vs ++ C).toArray e fz)
  | [], M, A, C, w, h, hg => by
    have : M = [] := List.eq_nil_of_length_eq_zero (by simpa using h)
    subst this; exact hg
  | v :: r, [], A, C, w, h, hg => by simp at h
  | v :: r, m :: M, A, C, w, h, hg => by
    have hg' : (w.setCell ⟨g, A.length, none⟩ v).heap[g]? = some (.cells ((A ++ [v]) ++ M ++ C).toArray e fz) := by
      simp only [World.setCell, Array.getElem?_modify, if_true, hg, Option.map_some]
      simp
    have := heap_setCells_mid r M (A ++ [v]) C _ (by simpa using h) hg'
    rw [World.setCells]
    have e1 : (A ++ [v]).length = A.length + 1 := by simp
    rw [e1] at this
    rw [this]; simp
theorem row_grown {w : World} {g o : Nat} {vs : List Value} : w.grownBy (w.setCells g o vs) (some g) := by
  refine ⟨World.os_setCells w g o vs, ?_, World.output_setCells w g o vs, ?_, fun k hk hne => World.heap_setCells_other w g o vs hk fun e => hne (by rw [e])⟩
  · revert o w
    induction vs with
    | nil => intros; rfl
    | cons v r ih => intro w o; rw [World.setCells]; exact ih
  · revert o w
    induction vs with
    | nil => intros; exact Nat.le_refl _
    | cons v r ih =>
      intro w o; rw [World.setCells]
      refine Nat.le_trans ?_ ih
      simp [World.setCell]
section
variable {P : Program} {ops : Array Oper} {hp : List HObj} {o : Oper} {fr : List Dat} {d : Dat} {Q : Post} {rest : List Oper}
variable {dst : Option Tmp} {ty : TypeId} {ps : String} {af : Array Edge} {g : Option (Nat × Bool)} {b cap : Nat} {e t T : TypeId} {xs : List Vx} {bytes : Nat} {z : Value} {ag : Bool}
abbrev hV (b N cap : Nat) (e : TypeId) (xs : List Vx) : HObj := hRowK (.slice (some ⟨b, 0, none⟩) N cap) e 2 RV xs
end
end Go.Proofs.Ytpiidgcljlalmaa
namespace Go.Proofs.Ytpiidgcljlalmaa.I
open Go.RowKit
theorem wpListIn_valueW {P : Program} {ops : Array Oper} {Q : Exit → Act → World → Prop} {rest : List Oper} {o : Oper} {a : Act} {w : World} (hg : o.guard = none) {v : Value} {w' : World} (h : (execOp a.eval o).run P w = .ok (.value v) w') (hk : wpListIn Fence.wide 0 P ops Q rest (a.put o.dst v) w') : wpListIn Fence.wide 0 P ops Q (o :: rest) a w :=
  wpListIn_plainW hg fun K hK => by unfold Oper.wp; rw [h]; exact hK _ _ hk
open Go.RowKit



structure WL (P : Program) (ops : Array Oper) (Q : Post) (rest : List Oper) (fr : List Dat) (hp : List HObj) : Prop where
  of ::
  out : ∀ (P0 : Nat → Prop) (B : Nat) (w0 w : World) (a : Act), Hp P0 B w0 hp w → Fr (Imm P0 B hp) w a fr → wpListIn Fence.wide 0 P ops (lift Q P0 B w0) rest a w
theorem WL.on {P : Program} {ops : Array Oper} {Q : Post} {rest : List Oper} {fr : List Dat} {hp : List HObj} (h : WL P ops Q rest fr hp) {P0 : Nat → Prop} {B : Nat} {w0 w : World} {a : Act} (hh : Hp P0 B w0 hp w) (hf : Fr (Imm P0 B hp) w a fr) : wpListIn Fence.wide 0 P ops (lift Q P0 B w0) rest a w := h.out _ _ _ _ _ hh hf
section
variable {P : Program} {ops : Array Oper} {hp : List HObj} {o : Oper} {fr fr' : List Dat} {d : Dat} {Q : Post} {rest : List Oper}
theorem WL.nil (h : Q .normal fr hp) : WL P ops Q [] fr hp := WL.of fun _ _ _ _ _ hh hf => ⟨fr, hp, h, hh, hf⟩
theorem WL.opG {P : Program} {ops : Array Oper} {hp : List HObj} {o : Oper} {fr : List Dat} {d : Dat} {Q : Post} {rest : List Oper} (h : SYG P ops hp o fr d) (k : WL P ops Q rest (setD fr o.dst d) hp) : WL P ops Q (o :: rest) fr hp := by
  refine WL.of fun P0 B w0 w a hh hf => ?_
  have := h.step (Q := lift Q P0 B w0) hh hf (K := wpListIn Fence.wide 0 P ops (lift Q P0 B w0) rest) fun a' w' e hf' => k.on (hh.ext e) hf'
  unfold wpListIn
  split
  · rename_i hw; rw [if_pos hw] at this; exact oper_wide this
  · rename_i hw; rw [if_neg hw] at this; exact ⟨fun _ _ => trivial, this⟩
theorem WL.op (hg : o.guard = none) (h : SY P ops hp o fr d) (k : WL P ops Q rest (setD fr o.dst d) hp) : WL P ops Q (o :: rest) fr hp := WL.opG (.inl ⟨want_none hg, h⟩) k
theorem WL.weak (h : WL P ops Q rest fr' hp) (hl : fr.length = fr'.length) (k : ∀ (t : Nat) (d : Dat), fr'[t]? = some d → ∃ d0 : Dat, fr[t]? = some d0 ∧ d0.le d) : WL P ops Q rest fr hp := WL.of fun _ _ _ _ _ hh hf => h.on hh (hf.weak hl k)

theorem WC.region {id : Nat} {l : List Oper} (h : WL P l.toArray Q l fr hp) : WC P Q (.region id l.toArray false) fr hp := WC.of fun _ _ _ _ _ hh hf => wpIn_wide.1 (wpIn_region_lit (n := 0) (h.on hh hf))
end


open Go.RowKit

section
variable {P : Program} {ops : Array Oper} {hp : List HObj} {o : Oper} {fr : List Dat} {d : Dat} {Q : Post} {rest : List Oper}
variable {dst : Option Tmp} {ty : TypeId} {ps : String} {af : Array Edge} {g : Option (Nat × Bool)}

theorem WL.nilRow {α : Type} (e : TypeId) (R : Rel α) [Good R] (h : WL P ops Q rest fr (hRow (.slice none 0 0) e R ([] : List α) :: hp)) : WL P ops Q rest fr hp := WL.of fun _ _ _ _ _ hh hf =>
  h.on (hh.push (Ext.refl _) (by simp [hRow, Value.ownBlock]) Own.nil) (hf.mono fun _ _ hd => Hp.pushed (Ext.refl _) (by simp [hRow, Value.ownBlock]) hd)
theorem WL.drop {o : HObj} (h : WL P ops Q rest fr hp) : WL P ops Q rest fr (o :: hp) := WL.of fun _ _ _ _ _ hh hf => h.on hh.drop (hf.mono fun d _ hd => d.weak hd Imm.sub)

theorem WL.perm {hp' : List HObj} (hp1 : hp.Perm hp') (h : WL P ops Q rest fr hp') : WL P ops Q rest fr hp := WL.of fun _ _ _ _ _ hh hf =>
  let ⟨h1, h2⟩ := hh.perm hp1
  h.on h1 (hf.mono fun d _ hd => d.weak hd fun k hk => (h2 k).1 hk)
theorem WL.know {p : Prop} {t : Nat} (ht : fr[t]? = some d) (hd : ∀ (I : Nat → Prop) (w : World) (v : Value), d.rd I w v → p) (h : p → WL P ops Q rest fr hp) : WL P ops Q rest fr hp := WL.of fun _ _ _ _ _ hh hf => (h (hd _ _ _ (hf.rd t d ht))).on hh hf
theorem WL.openE {α : Type} {p : α → Prop} {D : α → Dat} (t : Nat) (ht : fr[t]? = some (dE p D)) (h : ∀ x, p x → WL P ops Q rest (fr.set t (D x)) hp) : WL P ops Q rest fr hp := WL.of fun P0 B w0 w a hh hf => by
  obtain ⟨x, hx, hd⟩ := hf.rd t _ ht
  refine (h x hx).on hh ⟨hf.defers, by rw [hf.size, List.length_set], fun t' d' hd' => ?_⟩
  by_cases htt : t = t'
  · subst htt
    rw [List.getElem?_set] at hd'
    simp only [if_true] at hd'
    split at hd'
    · cases hd'; exact hd
    · cases hd'
  · rw [List.getElem?_set_ne htt] at hd'
    exact hf.rd t' d' hd'

theorem WL.id (h : WL P ops Q rest fr hp) : WL P ops Q rest fr hp := h
section
variable {p : Prop} {_ip : Decidable p} {b : Bool} {gi : Nat} {pol : Bool} {t : Tmp} {K : List Dat → Prop}
theorem WL.caseB (_hg : o.guard = some (gi, pol)) (_ht : (ops[gi]?).bind (·.dst) = some t) (hf : fr[t]? = some (dB b)) (h1 : b = true → WL P ops Q (o :: rest) (fr.set t (dB true)) hp) (h2 : b = false → WL P ops Q (o :: rest) (fr.set t (dB false)) hp) : WL P ops Q (o :: rest) fr hp := by
  cases b with
  | true => have := h1 rfl; rwa [set_self hf] at this
  | false => have := h2 rfl; rwa [set_self hf] at this
theorem WL.caseP (hg : o.guard = some (gi, pol)) (ht : (ops[gi]?).bind (·.dst) = some t) (hf : fr[t]? = some (dB (decide p))) (h1 : p → WL P ops Q (o :: rest) (fr.set t (dB true)) hp) (h2 : ¬ p → WL P ops Q (o :: rest) (fr.set t (dB false)) hp) : WL P ops Q (o :: rest) fr hp :=
  WL.caseB hg ht hf (fun h => h1 (of_decide_eq_true h)) (fun h => h2 (of_decide_eq_false h))
theorem WL.caseN (hg : o.guard = some (gi, pol)) (ht : (ops[gi]?).bind (·.dst) = some t) (hf : fr[t]? = some (dB (!decide p))) (h1 : ¬ p → WL P ops Q (o :: rest) (fr.set t (dB true)) hp) (h2 : p → WL P ops Q (o :: rest) (fr.set t (dB false)) hp) : WL P ops Q (o :: rest) fr hp :=
  WL.caseB hg ht hf (fun h => h1 (by simpa using h)) (fun h => h2 (by simpa using h))
end

end


open Go.RowKit

section
variable {P : Program} {ops : Array Oper} {hp : List HObj} {o : Oper} {fr : List Dat} {d : Dat} {Q : Post} {rest : List Oper}
variable {dst : Option Tmp} {ty : TypeId} {ps : String} {af : Array Edge} {g : Option (Nat × Bool)}

theorem WL.alloc {T : TypeId} {n : Nat} {agg : Bool} {z : Value} (hz : TyZ P T z) (hs : (dX z).Shape n agg)
    (h : ∀ b, WL P ops Q rest (setD fr dst (dX (.pointer (some ⟨b, 0, none⟩)))) (hCell b T n agg (dX z) :: hp)) : WL P ops Q ({ dst := dst, op := .alloc T, type := ty, pos := ps, after := af, guard := none } :: rest) fr hp := by
  refine WL.of fun P0 B w0 w a hh hf => ?_
  obtain ⟨cs, k1, k0, k2, k3, k4⟩ := hs (fun _ => True) w z rfl
  have hrun : (execOp a.eval { dst := dst, op := .alloc T, type := ty, pos := ps, after := af, guard := none }).run P w = .ok (.value (.pointer (some ⟨w.heap.size, 0, none⟩))) (w.alloc (.cells cs.toArray T)) := by
    cases hq : P.info? T with
    | none => have := hz.out; simp [hq] at this
    | some i =>
      have hz' : i.zero = some z := by have := hz.out; simpa [hq] using this
      unfold execOp
      simp [Instr.alloc, zeroValue, typeInfo, hq, hz', newVar, newRow, k3]
  refine wpListIn_valueW rfl hrun ?_
  have hx := Ext.of_alloc w (.cells cs.toArray T)
  have hb : ∀ k, (hCell w.heap.size T n agg (dX z)).blk = some k → w.heap.size ≤ k ∧ k < (w.alloc (.cells cs.toArray T)).heap.size := fun k hk => by
    cases hk
    exact ⟨Nat.le_refl _, by simp⟩
  refine (h w.heap.size).on (hh.push hx hb ⟨cs, z, alloc_get w _, k1, k0, k2, k4, rfl⟩) ?_
  exact Fr.put (hf.mono fun d _ hd => Hp.pushed hx (fun k hk => (hb k hk).1) hd) rfl

theorem WL.storeK {x : Operand} {t b n : Nat} {T T2 : TypeId} {agg : Bool} {d0 : Dat} (hT : TyI P T n agg) (hp0 : OpD fr (.tmp t) (dX (.pointer (some ⟨b, 0, none⟩)))) (hx : OpD fr x d) (hs : d.Shape n agg)
    (h : WL P ops Q rest (setD fr dst (dX undef)) (hCell b T2 n agg d :: hp)) : WL P ops Q ({ dst := dst, op := .store T (.tmp t) x, type := ty, pos := ps, after := af, guard := none } :: rest) fr (hCell b T2 n agg d0 :: hp) := by
  refine WL.of fun P0 B w0 w a hh hf => ?_
  obtain ⟨cs, u, c1, c2, c0, c3, c4, c5⟩ := hh.ok (hCell b T2 n agg d0) (by simp)
  have h1 := hx.ev hf
  obtain ⟨cs', k1, k0, k2, k3, k4⟩ := hs _ _ _ h1
  have h2 : a.eval (.tmp t) = .pointer (some ⟨b, 0, none⟩) := hp0.ev hf
  have hr := run_storeC (u := a.eval x) hT.size c1 c2 k1 k2 k3
  have hrun : (execOp a.eval { dst := dst, op := .store T (.tmp t) x, type := ty, pos := ps, after := af, guard := none }).run P w = .ok .skip (w.setRow b cs'.toArray) := by
    unfold execOp
    simp only [h2, Sem.run_bind, hr, Result.andThen_ok, Sem.run_pure]
  refine wpListIn_plainW rfl fun K hK => ?_
  unfold Oper.wp
  rw [hrun]
  have hgr : w.grownBy (w.setRow b cs'.toArray) (hCell b T2 n agg d0).blk := grown_setRow
  have hok : (hCell b T2 n agg d).ok (fun k => Imm P0 B (hCell b T2 n agg d0 :: hp) k ∧ k < w.heap.size) (w.setRow b cs'.toArray) :=
    ⟨cs', a.eval x, setRow_heap w b _ _ _ _ c1, k1, k0, k2, k4, d.grown (d.bound h1) hgr (fun k hk hc => hc.1.2 _ (by simp) hk)⟩
  exact hK _ _ (h.on (hh.write hgr (.inl rfl) hok) (Fr.put (hf.mono fun _ _ hd => Hp.written (o' := hCell b T2 n agg d) hgr (.inl rfl) hd) (d := dX undef) rfl))
end


open Go.RowKit

section
variable {P : Program} {ops : Array Oper} {hp : List HObj} {o : Oper} {fr : List Dat} {d : Dat} {Q : Post} {rest : List Oper}
variable {dst : Option Tmp} {ty : TypeId} {ps : String} {af : Array Edge} {g : Option (Nat × Bool)}
variable {t e : TypeId} {n bytes : Nat} {z : Value} {ag : Bool}

theorem wp_append {a : Act} {w w' : World} {s y : Operand} {v yv v' : Value} {dst2 : Option Tmp} {ty2 : TypeId} {Qa : Exit → Act → World → Prop} (hs : a.eval s = v) (hy : a.eval y = yv) (hr : (Builtin.append_ #[t, t] ty2 #[v, yv]).run P w = .ok v' w') (hk : wpListIn Fence.wide 0 P ops Qa rest (a.put dst2 v') w') :
    wpListIn Fence.wide 0 P ops Qa ({ dst := dst2, op := .call { callee := .builtin .append, args := #[s, y], argTypes := #[t, t] }, type := ty2, pos := ps, after := af, guard := none } :: rest) a w := by
  refine wpListIn_valueW rfl (v := v') (w' := w') ?_ hk
  unfold execOp
  simp only [resolve, invoke, builtin, List.map_toArray, List.map_cons, List.map_nil, hs, hy, Sem.run_bind, Sem.run_pure, Result.andThen_ok, hr]

theorem WL.appK {s y : Operand} {dst2 : Option Tmp} {ty2 : TypeId} {ps2 : String} {af2 : Array Edge} (E : ElT P t e n z bytes ag) {α : Type} {R : Rel α} {_gR : Good R} {v : Value} {xs ys : List α} (hs : OpD fr s (dX v)) (hy : OpD fr y (dS (ArrK n R) ys)) (hby : 0 < bytes)
    (hlen : (xs.length + ys.length) * bytes ≤ 140737488355328) (h : ∀ v', WL P ops Q rest (setD fr dst2 (dX v')) (hRowK v' e n R (xs ++ ys) :: hp)) :
    WL P ops Q ({ dst := dst2, op := .call { callee := .builtin .append, args := #[s, y], argTypes := #[t, t] }, type := ty2, pos := ps2, after := af2, guard := none } :: rest) fr (hRowK v e n R xs :: hp) := by
  refine WL.of fun P0 B w0 w a hh hf => ?_
  obtain ⟨ad, cap, hv, c1, c2, c0, c3⟩ := (hy.ev hf : ArrK n R _ _ _ _)
  have hm : xs.length + ys.length ≤ maxLen := by
    have : (xs.length + ys.length) * 1 ≤ (xs.length + ys.length) * bytes := Nat.mul_le_mul_left _ hby
    simp only [maxLen]; omega
  cases ad with
  | none =>
    have hy0 : ys = [] := by
      cases ys with
      | nil => rfl
      | cons y ys => obtain ⟨_, _, _, _, _, _, hc, _⟩ := c3 0 (by simp); cases hc
    subst hy0
    obtain ⟨us, _, _, _, ho, _⟩ := hh.ok (hRowK v e n R xs) (by simp)
    refine wp_append (v := v) (yv := _) (hs.ev hf) hv (run_append_none E ho cap) ?_
    have := h v
    rw [List.append_nil] at this
    exact this.on hh (Fr.put hf rfl)
  | some ad =>
    have hch : ∀ k : Nat, ∃ cs : List Value, ∀ h : k < ys.length, cs.length = n ∧ (∀ c ∈ cs, c.oneCell' = true) ∧ (∀ j c, cs[j]? = some c → w.cell? (ad.add (k * n + j)) = some c) ∧ R (Imm P0 B (hRowK v e n R xs :: hp)) w (.agg cs.toArray) ys[k] := fun k => by
      by_cases hk : k < ys.length
      · obtain ⟨cs, b, off, r1, r2, r3, r4, r5, r6⟩ := c3 k hk
        cases r4
        exact ⟨cs, fun _ => ⟨r2, r3, fun j c hc => by rw [Addr.add_lit, ← Nat.add_assoc]; exact r6 j c hc, r1⟩⟩
      · exact ⟨[], fun h => absurd h hk⟩
    obtain ⟨f, hfch⟩ := Classical.axiomOfChoice hch
    have hmem : ∀ u ∈ (List.range ys.length).map f, ∃ j, j < ys.length ∧ u = f j := fun u hu => by
      simp only [List.mem_map, List.mem_range] at hu
      obtain ⟨j, hj, rfl⟩ := hu
      exact ⟨j, hj, rfl⟩
    obtain ⟨v', w', hr, r1, r2, r3⟩ := appK_step (ty := ty2) E hh (ad := ad) (c := cap) (ys := ys) (news := (List.range ys.length).map f) (by simp) (fun j u hu => by
        have hlt := (List.getElem?_eq_some_iff.1 hu).1
        have hfl : ((List.range ys.length).map f).flatten.length = ys.length * n := by
          rw [flatten_len (n := n) fun u hu => by obtain ⟨j, hj, rfl⟩ := hmem u hu; exact (hfch j hj).1]; simp
        rw [hfl] at hlt
        have hq : j / n < ys.length := (Nat.div_lt_iff_lt_mul c0).2 hlt
        have hr : j % n < n := Nat.mod_lt _ c0
        have hj : j = (j / n) * n + j % n := by rw [Nat.mul_comm]; exact (Nat.div_add_mod j n).symm
        have hlen' := (hfch (j / n) hq).1
        have hg := flatten_get (us := (List.range ys.length).map f) (n := n) (k := j / n) (j := j % n) (fun u hu => by obtain ⟨j, hj, rfl⟩ := hmem u hu; exact (hfch j hj).1) (by simpa using hq) (c := (f (j / n))[j % n]'(by omega)) (by simp)
        rw [← hj, hu] at hg
        cases hg
        have := (hfch (j / n) hq).2.2.1 (j % n) _ (List.getElem?_eq_getElem (by omega))
        rw [← hj] at this
        exact this)
      (fun u hu => by obtain ⟨j, hj, rfl⟩ := hmem u hu; exact ⟨(hfch j hj).1, (hfch j hj).2.1⟩) (fun k h1 h2 => by
        simp only [List.getElem_map, List.getElem_range]
        exact (hfch k h2).2.2.2) hlen hm
    refine wp_append (v := v) (yv := _) (hs.ev hf) hv hr ?_
    exact (h v').on r1 (Fr.put (x := dst2) (hf.mono fun d _ hd => Hp.written (o := hRowK v e n R xs) (o' := hRowK v' e n R (xs ++ ys)) r2 r3 hd) (d := dX v') rfl)
theorem WL.app1 {s y : Operand} {dst2 : Option Tmp} {ty2 : TypeId} {ps2 : String} {af2 : Array Edge} (E : ElT P t e 1 z bytes ag) {α : Type} {R : Rel α} {_gR : Good R} {v : Value} {xs ys : List α} (hs : OpD fr s (dX v)) (hy : OpD fr y (dS (Arr R) ys)) (hby : 0 < bytes)
    (hlen : (xs.length + ys.length) * bytes ≤ 140737488355328) (h : ∀ v', WL P ops Q rest (setD fr dst2 (dX v')) (hRow v' e R (xs ++ ys) :: hp)) :
    WL P ops Q ({ dst := dst2, op := .call { callee := .builtin .append, args := #[s, y], argTypes := #[t, t] }, type := ty2, pos := ps2, after := af2, guard := none } :: rest) fr (hRow v e R xs :: hp) := by
  refine WL.of fun P0 B w0 w a hh hf => ?_
  obtain ⟨ad, cap, hv, c1, c2, c3⟩ := (hy.ev hf : Arr R _ _ _ _)
  have hm : xs.length + ys.length ≤ maxLen := by
    have : (xs.length + ys.length) * 1 ≤ (xs.length + ys.length) * bytes := Nat.mul_le_mul_left _ hby
    simp only [maxLen]; omega
  cases ad with
  | none =>
    have hy0 : ys = [] := by
      cases ys with
      | nil => rfl
      | cons y ys => obtain ⟨_, _, _, _, _, hc, _⟩ := c3 0 (by simp); cases hc
    subst hy0
    obtain ⟨us, _, ho, _⟩ := hh.ok (hRow v e R xs) (by simp)
    refine wp_append (v := v) (yv := _) (hs.ev hf) hv (run_append_none E ho cap) ?_
    have := h v
    rw [List.append_nil] at this
    exact this.on hh (Fr.put hf rfl)
  | some ad =>
    have hch : ∀ k : Nat, ∃ u : Value, ∀ h : k < ys.length, w.cell? (ad.add k) = some u ∧ u.oneCell' = true ∧ R (Imm P0 B (hRow v e R xs :: hp)) w u ys[k] := fun k => by
      by_cases hk : k < ys.length
      · obtain ⟨u, b, off, r1, r2, r3, r4, r5⟩ := c3 k hk
        cases r3
        exact ⟨u, fun _ => ⟨by rw [Addr.add_lit]; exact r5, r2, r1⟩⟩
      · exact ⟨undef, fun h => absurd h hk⟩
    obtain ⟨f, hfch⟩ := Classical.axiomOfChoice hch
    obtain ⟨v', w', hr, r1, r2, r3⟩ := app1_step (ty := ty2) E hh (ad := ad) (c := cap) (ys := ys) (news := (List.range ys.length).map f) (by simp) (fun j u hu => by
        obtain ⟨hjl, hju⟩ := List.getElem?_eq_some_iff.1 hu
        simp at hjl hju
        subst hju
        exact (hfch j hjl).1) (fun u hu => by
        simp only [List.mem_map, List.mem_range] at hu
        obtain ⟨j, hj, rfl⟩ := hu
        exact (hfch j hj).2.1) (fun k h1 h2 => by
        simp only [List.getElem_map, List.getElem_range]
        exact (hfch k h2).2.2) hlen hm
    refine wp_append (v := v) (yv := _) (hs.ev hf) hv hr ?_
    exact (h v').on r1 (Fr.put (x := dst2) (hf.mono fun d _ hd => Hp.written (o := hRow v e R xs) (o' := hRow v' e R (xs ++ ys)) r2 r3 hd) (d := dX v') rfl)
theorem WL.build01 (E : ElT P t e 1 z bytes ag) {α : Type} (R : Rel α) [Good R] (h : ∀ v, WL P ops Q rest (setD fr dst (dX v)) (hRow v e R ([] : List α) :: hp)) : WL P ops Q ({ dst := dst, op := .buildSlice t 0 #[], type := ty, pos := ps, after := af, guard := none } :: rest) fr hp := by
  refine WL.of fun P0 B w0 w a hh hf => ?_
  have hb := run_buildN (w := w) E (us := []) (css := []) rfl (fun i u cs' hu hcs => by simp at hu) (by simp)
  refine wpListIn_valueW rfl (v := .slice (some ⟨w.heap.size, 0, none⟩) 0 0) (w' := w.alloc (.cells #[] e)) ?_ ?_
  · unfold execOp
    simp only [List.map_toArray, List.map_nil, Sem.run_bind]
    have : (Instr.buildSlice t 0 #[]).run P w = .ok (.slice (some ⟨w.heap.size, 0, none⟩) 0 0) (w.alloc (.cells #[] e)) := hb
    simp only [this, Result.andThen_ok, Sem.run_pure]
  have hx := Ext.of_alloc w (.cells #[] e)
  have hob : ∀ k, (hRow (.slice (some ⟨w.heap.size, 0, none⟩) 0 0) e R ([] : List α)).blk = some k → w.heap.size ≤ k ∧ k < (w.alloc (.cells #[] e)).heap.size := fun k hk => by
    cases hk
    exact ⟨Nat.le_refl _, by simp⟩
  refine (h _).on (hh.push (o := hRow (.slice (some ⟨w.heap.size, 0, none⟩) 0 0) e R ([] : List α)) hx hob ⟨[], rfl, ?_, fun k h => absurd h (Nat.not_lt_zero k)⟩) (Fr.put (hf.mono fun d _ hd => Hp.pushed hx (fun k hk => (hob k hk).1) hd) rfl)
  refine ⟨by simp, .inr ⟨w.heap.size, 0, #[], rfl, Nat.zero_le _, alloc_get w _, by simp, by simp [maxLen], by simp, by simp⟩⟩
theorem WL.keep1 {α : Type} {R : Rel α} {_gR : Good R} {v : Value} {xs : List α} {s : Tmp} (hs : fr[s]? = some (dX v)) (h : WL P ops Q rest (fr.set s (dS (Arr R) xs)) hp) : WL P ops Q rest fr (hRow v e R xs :: hp) := WL.of fun _ _ _ _ _ hh hf => h.on hh.drop (keep_slot hf hs (d := dS (Arr R) xs) (Own.keep hh))
end


open Go.RowKit

section
variable {P : Program} {ops : Array Oper} {hp : List HObj} {md : Region.Mode} {w : World}

theorem wpAnyIn_of_headD {P : Program} {md : Region.Mode} {ops : Array Oper} {hp : List HObj} {n g : Nat} {L : Array Bool → List Dat → Prop} {Q' : Exit → Act → World → Prop} {P0 : Nat → Prop} {B : Nat} {w0 : World} : ∀ (f : Nat) (listed : Array Bool) (fr : List Dat) (a : Act) (w : World), Hp P0 B w0 hp w → Fr (Imm P0 B hp) w a fr →
    (∀ listed fr a w', Ext w w' → Hp P0 B w0 hp w' → Fr (Imm P0 B hp) w' a fr → L listed fr → wpAnyIn Fence.wide 0 P md ops Q' g listed a w') → wpAnyDL P md ops hp n L f listed fr → wpAnyIn Fence.wide 0 P md ops Q' (f + g) listed a w
  | 0, listed, fr, a, w, hh, hf, hL, h => by rw [Nat.zero_add]; exact hL _ _ _ _ (Ext.refl _) hh hf h
  | f + 1, listed, fr, a, w, hh, hf, hL, h => by
    rw [show f + 1 + g = (f + g) + 1 by omega]
    refine ⟨fun h0 => absurd h0 h.1, fun i hi => ?_⟩
    have h1 := (h.2 i hi).2
    unfold sOp at h1
    unfold wpOpIn
    split
    · rename_i ho; simp only [ho] at h1
      exact wpAnyIn_of_headD f _ _ _ _ hh hf hL h1
    · rename_i o ho; simp only [ho] at h1
      obtain ⟨d, h2, h3⟩ := h1
      have := h2.step (Q := Q') hh hf (K := wpAnyIn Fence.wide 0 P md ops Q' (f + g) (listed.setIfInBounds i true)) fun a' w' e hf' => wpAnyIn_of_headD f _ _ _ _ (hh.ext e) hf' (fun li fr' a'' w'' e' => hL li fr' a'' w'' (e.trans e')) h3
      split
      · rename_i hw; rw [if_pos hw] at this; exact oper_wide this
      · rename_i hw; rw [if_neg hw] at this; exact ⟨fun _ _ => trivial, this⟩
theorem wpAnyIn_of_seq {P : Program} {md : Region.Mode} {ops : Array Oper} {Q' : Exit → Act → World → Prop} : ∀ (l : List Oper) (k : Nat) (listed : Array Bool) (a : Act) (w : World), (∀ j, l[j]? = ops[k + j]?) →
    Region.seqB md ops l.length k listed = true → wpListIn Fence.wide 0 P ops Q' l a w → wpAnyIn Fence.wide 0 P md ops Q' l.length listed a w
  | [], _, _, _, _, _, hB, h => ⟨by simpa [Region.seqB] using hB, h⟩
  | o :: l, k, listed, a, w, hl, hB, h => by
    have h0 : ops[k]? = some o := by simpa using (hl 0).symm
    simp only [List.length_cons, Region.seqB, Bool.and_eq_true, decide_eq_true_eq] at hB
    refine ⟨fun h1 => (by rw [hB.1] at h1; cases h1), fun i hi => ?_⟩
    rw [hB.1] at hi
    have hik : i = k := by simpa using hi
    subst hik
    have hw : wpOpIn Fence.wide 0 P ops Q' i (wpListIn Fence.wide 0 P ops Q' l) a w := by unfold wpOpIn; simp only [h0]; exact h
    exact wpOpIn_mono (fun a' w' h' => wpAnyIn_of_seq l (i + 1) _ a' w' (fun j => by have := hl (j + 1); simpa [Nat.add_assoc, Nat.add_comm 1 j] using this) hB.2 h') hw
theorem WC.drawTail {id : Nat} {l : List Oper} {fr : List Dat} {Q : Post} (n : Nat) (hm : P.follows .mixedOrders = true) (hB : Region.lexTailB .any l.toArray n = true)
    (h : WD P l.toArray hp (fun f => WL P l.toArray Q (l.drop n) f hp) (l.take n) fr) : WC P Q (.region id l.toArray true) fr hp := by
  refine WC.of fun P0 B w0 w a hh hf => ?_
  simp only [Region.lexTailB, Bool.and_eq_true, decide_eq_true_eq] at hB
  obtain ⟨⟨⟨⟨hsel, hn⟩, hs⟩, hc⟩, hlex⟩ := hB
  have hn' : n < l.length := by simpa using hn
  have htl : (l.take n).length = n := by simp; omega
  have hdl : (l.drop n).length = l.toArray.size - n := by simp
  have inv0 : HeadInv .any l.toArray n (Array.replicate l.toArray.size false) :=
    ⟨by simp, fun j oj _ hl => (by rw [getD_replicate_false] at hl; cases hl), fun t _ ht => getD_in (by simpa using ht) (getD_replicate_false _ _)⟩
  have H := wpAnyDL_lex (md := .any) (g := l.toArray.size - n) hs hc hn (l.take n) 0 _ fr (fun j hj => by
    have hj' : j < n := by rw [htl] at hj; exact hj
    simp [hj']) (by simpa using htl) inv0 (by rw [htl]; exact hlex) h
  have hx : Ext w { w with drawn := w.drawn + 1 } := (Ext.refl w).drew
  refine wpIn_wide.1 (wpIn_region_any (n := 0) hm ?_)
  have := wpAnyIn_of_headD (Q' := lift Q P0 B w0) (g := l.toArray.size - n) _ _ _ _ _ (hh.ext hx) (hf.ext hx) (fun listed fr' a' w' e hh' hf' hL => by
    have := wpAnyIn_of_seq (md := .any) (Q' := lift Q P0 B w0) (l.drop n) n listed a' w' (fun j => by simp [List.getElem?_drop]) (by rw [hdl]; exact hL.1) (hL.2.on hh' hf')
    rwa [hdl] at this) H
  rw [htl, show n + (l.toArray.size - n) = l.toArray.size by omega] at this
  exact this
end



open Go.RowKit


open Go.RowKit

open Go.RowKit

open Go.RowKit


end Go.Proofs.Ytpiidgcljlalmaa.I
