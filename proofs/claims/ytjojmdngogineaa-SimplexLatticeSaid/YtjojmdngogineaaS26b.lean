/-
  Colors of simplices, in plain Lean.
-/
import Derived.Test.YtjojmdngogineaaOps4
import Derived.Test.YtjojmdngogineaaSpec26
namespace Go.Proofs.Ytjojmdngogineaa
/-- the set of the colors -/
def maskV (s : List Vx) : Int := s.foldl (fun m v => ior m (ishl 1 v.1)) 0
def colorsV (s : List Vx) : Int × Int := if chkV s ≠ 0 then (0, chkV s) else (maskV s, 0)
def colP (c : Int) (v : Vx) : Bool := decide (iand (ishr c v.1) 1 = 1)
def coloredV (s : List Vx) (c : Int) : List Vx := s.filter (colP c)
def restrictV (s : List Vx) (c : Int) : List Vx × Int := if chkV s ≠ 0 then ([], chkV s) else (coloredV s c, 0)
theorem maskV_snoc {s : List Vx} {k : Nat} (h : k < s.length) : maskV (s.take (k + 1)) = ior (maskV (s.take k)) (ishl 1 s[k].1) := by
  unfold maskV
  rw [take_snoc' h, List.foldl_append]
  rfl
theorem coloredV_snoc {s : List Vx} {c : Int} {k : Nat} (h : k < s.length) : coloredV (s.take (k + 1)) c = coloredV (s.take k) c ++ (if colP c s[k] = true then [s[k]] else []) := filter_snoc h
theorem chk_color {s : List Vx} (h : chkV s = 0) : ∀ (k : Nat) (hk : k < s.length), 0 ≤ s[k].1 := fun _ hk => (rngV_iff.1 ((chkV_zero.1 h).2.2.1 _ (List.getElem_mem hk))).1

end Go.Proofs.Ytjojmdngogineaa
