/-
  Contracts of functions that take or hand back rows of their caller's own.
-/
import Derived.Test.YtjojmdngogineaaOps7
namespace Go.Proofs.Ytjojmdngogineaa
open Go.RowKit
structure InC (P : Program) (f : FuncId) (ds : List Dat) (hp1 : List HObj) (K : Dat → List HObj → Prop) : Prop where
  out : ∀ hp : List HObj, ∃ (fn : Func) (c : Code) (t : Tmp), P.funcs[f]? = some fn ∧ fn.body = some c ∧ fn.results = #[.tmp t] ∧ ∀ gh : HObj, gh.blk = none → WC P (finI t K gh hp) c (ds ++ List.replicate (fn.ntmps - ds.length) (dX undef)) (hp1 ++ gh :: hp)
section
variable {P : Program} {ops : Array Oper} {hp : List HObj} {o : Oper} {fr : List Dat} {d : Dat} {Q : Post} {rest : List Oper}
variable {dst : Option Tmp} {ty : TypeId} {ps : String} {af : Array Edge} {g : Option (Nat × Bool)}
theorem InC.intro {f : FuncId} {fn : Func} {c : Code} {t : Tmp} {ds : List Dat} {hp1 : List HObj} {K : Dat → List HObj → Prop} (hf : P.funcs[f]? = some fn) (hb : fn.body = some c) (hr : fn.results = #[.tmp t])
    (h : ∀ (hp : List HObj) (gh : HObj), gh.blk = none → WC P (finI t K gh hp) c (ds ++ List.replicate (fn.ntmps - ds.length) (dX undef)) (hp1 ++ gh :: hp)) : InC P f ds hp1 K := ⟨fun hp => ⟨fn, c, t, hf, hb, hr, h hp⟩⟩
theorem WL.inC {f : FuncId} {args : Array Operand} {ats : Array TypeId} {ds : List Dat} {hp1 : List HObj} {K : Dat → List HObj → Prop} (hF : InC P f ds hp1 K) (he : Enters P f) (ha : ArgsD fr args.toList ds)
    (hK : ∀ d' hp2, K d' hp2 → WL P ops Q rest (setD fr dst d') (hp2 ++ hp)) :
    WL P ops Q ({ dst := dst, op := .call { callee := .value (.func f), args := args, argTypes := ats }, type := ty, pos := ps, after := af, guard := none } :: rest) fr (hp1 ++ hp) := by
  obtain ⟨fn, c, t, hf, hb, hr, h⟩ := hF.out hp
  exact WL.inline hp1 K hf hb hr he ha h hK
/-- a row is taken, a row is handed back -/
theorem WL.inRow {f : FuncId} {args : Array Operand} {ats : Array TypeId} {ds : List Dat} {o1 : HObj} {e : TypeId} {n : Nat} {α : Type} {R : Rel α} {_gR : Good R} {p : List α → Prop} (hF : InC P f ds [o1] fun d' hp2 => ∃ v xs, p xs ∧ d' = dX v ∧ hp2 = [hRowK v e n R xs]) (he : Enters P f) (ha : ArgsD fr args.toList ds)
    (hK : ∀ v xs, p xs → WL P ops Q rest (setD fr dst (dX v)) (hRowK v e n R xs :: hp)) :
    WL P ops Q ({ dst := dst, op := .call { callee := .value (.func f), args := args, argTypes := ats }, type := ty, pos := ps, after := af, guard := none } :: rest) fr (o1 :: hp) :=
  WL.inC (hp1 := [o1]) hF he ha fun d' hp2 ⟨v, xs, hp, hd, hh⟩ => by subst hd; subst hh; exact hK v xs hp
theorem WL.nilRowK {α : Type} (e : TypeId) (n : Nat) (hn : 0 < n) (R : Rel α) [Good R] (h : WL P ops Q rest fr (hRowK (.slice none 0 0) e n R ([] : List α) :: hp)) : WL P ops Q rest fr hp := WL.of fun _ _ _ _ _ hh hf =>
  h.on (hh.push (Ext.refl _) (by simp [hRowK, Value.ownBlock]) (OwnK.nil hn)) (hf.mono fun _ _ hd => Hp.pushed (Ext.refl _) (by simp [hRowK, Value.ownBlock]) hd)
/-- a row is handed back, or nil -/
theorem WL.outRow {f : FuncId} {args : Array Operand} {ats : Array TypeId} {ds : List Dat} {e : TypeId} {n : Nat} {α : Type} {R : Rel α} {_gR : Good R} {xs : List α} (hn : 0 < n) (hF : InC P f ds [] fun d' hp2 => ∃ v, d' = dX v ∧ (hp2 = [hRowK v e n R xs] ∨ v = .slice none 0 0 ∧ xs = [] ∧ hp2 = [])) (he : Enters P f) (ha : ArgsD fr args.toList ds)
    (hK : ∀ v, WL P ops Q rest (setD fr dst (dX v)) (hRowK v e n R xs :: hp)) :
    WL P ops Q ({ dst := dst, op := .call { callee := .value (.func f), args := args, argTypes := ats }, type := ty, pos := ps, after := af, guard := none } :: rest) fr hp :=
  WL.inC (hp1 := []) hF he ha fun d' hp2 ⟨v, hd, hh⟩ => by
    subst hd
    rcases hh with rfl | ⟨rfl, rfl, rfl⟩
    · exact hK v
    · exact WL.nilRowK e n hn R (hK _)
end
end Go.Proofs.Ytjojmdngogineaa
