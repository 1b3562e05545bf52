/-
  More operations over symbolic frames: parts of slices.
-/
import Derived.Test.YtjojmdngogineaaOps4
namespace Go.Proofs.Ytjojmdngogineaa
open Go.RowKit
section
variable {P : Program} {ops : Array Oper} {hp : List HObj} {o : Oper} {fr : List Dat} {d : Dat} {Q : Post} {rest : List Oper}
variable {dst : Option Tmp} {ty : TypeId} {ps : String} {af : Array Edge} {g : Option (Nat × Bool)}
variable {t e : TypeId} {n bytes : Nat} {z : Value} {ag : Bool}
theorem ElsD.cn {α : Type} {R : Rel α} {_gR : Good R} {x : Operand} {xs : List Operand} {a : α} {els : List α} (h : OpD fr x (dS R a)) (k : ElsD fr R xs els) : ElsD fr R (x :: xs) (a :: els) := ElsD.cons h k
theorem ElsD.nl {α : Type} {R : Rel α} {_gR : Good R} : ElsD fr R [] ([] : List α) := ElsD.nil
theorem SY.fromK {x y : Operand} (E : ElT P t e n z bytes ag) {α : Type} {R : Rel α} {_gR : Good R} {xs : List α} {j : Int} (hx : OpD fr x (dS (ArrK n R) xs)) (hy : OpD fr y (dI j)) (l : Nat) (hj : j = (l : Int)) (h1 : l ≤ xs.length) :
    SY P ops hp { dst := dst, op := .slice t x (some y) none none, type := ty, pos := ps, after := af, guard := g } fr (dS (ArrK n R) (xs.drop l)) := by
  have := SY.sliceK (P := P) (ops := ops) (hp := hp) (dst := dst) (ty := ty) (ps := ps) (af := af) (g := g) (_gR := _gR) E hx (BndD.yesJ hy hj) BndD.no h1 (Nat.le_refl _)
  rwa [List.take_of_length_le (by simp)] at this
theorem SY.from1 {x y : Operand} (E : ElT P t e 1 z bytes ag) {α : Type} {R : Rel α} {_gR : Good R} {xs : List α} {j : Int} (hx : OpD fr x (dS (Arr R) xs)) (hy : OpD fr y (dI j)) (l : Nat) (hj : j = (l : Int)) (h1 : l ≤ xs.length) :
    SY P ops hp { dst := dst, op := .slice t x (some y) none none, type := ty, pos := ps, after := af, guard := g } fr (dS (Arr R) (xs.drop l)) := by
  have := SY.slice1 (P := P) (ops := ops) (hp := hp) (dst := dst) (ty := ty) (ps := ps) (af := af) (g := g) (_gR := _gR) E hx (BndD.yesJ hy hj) BndD.no h1 (Nat.le_refl _)
  rwa [List.take_of_length_le (by simp)] at this
theorem SY.uptoK {x y : Operand} (E : ElT P t e n z bytes ag) {α : Type} {R : Rel α} {_gR : Good R} {xs : List α} {j : Int} (hx : OpD fr x (dS (ArrK n R) xs)) (hy : OpD fr y (dI j)) (l : Nat) (hj : j = (l : Int)) (h1 : l ≤ xs.length) :
    SY P ops hp { dst := dst, op := .slice t x none (some y) none, type := ty, pos := ps, after := af, guard := g } fr (dS (ArrK n R) (xs.take l)) := by
  have := SY.sliceK (P := P) (ops := ops) (hp := hp) (dst := dst) (ty := ty) (ps := ps) (af := af) (g := g) (_gR := _gR) E hx (BndD.no (k := 0)) (BndD.yesJ hy hj) (Nat.zero_le _) h1
  simpa using this
theorem SY.fullE (E : ElT P t e n z bytes ag) {α : Type} {R : Rel α} {_gR : Good R} {len : Nat} {parts : Array (Nat × Operand)} {els : List α} (hx : ElsD fr R (parts.toList.map Prod.snd) els) (hparts : parts.toList = ((parts.toList.map Prod.snd).zipIdx).map (fun p => (p.2, p.1))) (hl : len = els.length) (hn : 0 < n) (hs : ∀ a, (dS R a).Shape n true) (hsm : els.length * n ≤ 16777216) :
    SY P ops hp { dst := dst, op := .buildSlice t len parts, type := ty, pos := ps, after := af, guard := g } fr (dFullK n R els) := SY.fullK E hparts hx hl hn hs hsm
theorem SY.buildE (E : ElT P t e n z bytes ag) {α : Type} {R : Rel α} {_gR : Good R} {len : Nat} {parts : Array (Nat × Operand)} {els : List α} (hx : ElsD fr R (parts.toList.map Prod.snd) els) (hparts : parts.toList = ((parts.toList.map Prod.snd).zipIdx).map (fun p => (p.2, p.1))) (hl : len = els.length) (hn : 0 < n) (hs : ∀ a, (dS R a).Shape n true) (hsm : els.length * n ≤ 16777216) :
    SY P ops hp { dst := dst, op := .buildSlice t len parts, type := ty, pos := ps, after := af, guard := g } fr (dS (ArrK n R) els) := SY.buildK E hx hparts hl hn hs hsm
end

end Go.Proofs.Ytjojmdngogineaa
