/- Part 7: walks by contracts, and plain laws. -/
import Derived.Deep.MidRow
import Derived.Test.YtgppfikidagfpaaGreatDoorVf6
set_option linter.unusedVariables false
set_option linter.unusedSimpArgs false
set_option linter.unusedSectionVars false
namespace Go.Proofs.YtgppfikidagfpaaGreatDoor
open Go.RowKit

def flatV (xs : List Vx) : List Value := (xs.map encV).flatten
theorem flatV_cons (x : Vx) (l : List Vx) : flatV (x :: l) = .int .i64 x.1 :: .int .i64 x.2 :: flatV l := rfl
theorem flatV_len : ∀ (l : List Vx), (flatV l).length = l.length * 2
  | [] => rfl
  | x :: l => by rw [flatV_cons]; simp only [List.length_cons, flatV_len l]; omega
theorem flatV_app (a b : List Vx) : flatV (a ++ b) = flatV a ++ flatV b := by unfold flatV; rw [List.map_append, List.flatten_append]
def RowAt (w : World) (g cap : Nat) (e : TypeId) (xs : List Vx) : Prop :=
  ∃ tl : List Value, w.heap[g]? = some (.cells (flatV xs ++ tl).toArray e (0, 0)) ∧ xs.length ≤ cap ∧ cap ≤ maxLen ∧ (flatV xs ++ tl).length = cap * 2
abbrev rowV (g cap : Nat) (xs : List Vx) : Value := .slice (some ⟨g, 0, none⟩) xs.length cap
theorem ownK_rowAt {e : TypeId} {I : Nat → Prop} {w : World} {g cap : Nat} {xs : List Vx} : OwnK 0 e 2 RV I w (rowV g cap xs) xs ↔ RowAt w g cap e xs := by
  constructor
  · rintro ⟨us, h1, h2, h0, h3, h4⟩
    have hus := us_encV h1 h4
    subst hus
    obtain ⟨hfl, hv⟩ := h3
    rcases hv with ⟨hz, _⟩ | ⟨g', cap', cur, hv, hB, hg, hc1, hc2, hc3, hc4⟩
    · cases hz
    · cases hv
      refine ⟨cur.toList.drop (xs.length * 2), ?_, hc1, hc2, ?_⟩
      · have : flatV xs ++ cur.toList.drop (xs.length * 2) = cur.toList := by
          unfold flatV; rw [← hc4, List.take_append_drop]
        rw [this]; exact hg
      · have : flatV xs ++ cur.toList.drop (xs.length * 2) = cur.toList := by
          unfold flatV; rw [← hc4, List.take_append_drop]
        rw [this]; simpa using hc3
  · rintro ⟨tl, hg, hc1, hc2, hc3⟩
    refine ⟨xs.map encV, by simp, fun u hu => ?_, by decide, ⟨?_, .inr ⟨g, cap, _, rfl, Nat.zero_le _, hg, hc1, hc2, by simpa using hc3, ?_⟩⟩, fun k h h' => ?_⟩
    · obtain ⟨y, _, rfl⟩ := List.mem_map.1 hu
      exact ⟨rfl, by simp [encV, Value.oneCell']⟩
    · exact flatV_len xs
    · show (flatV xs ++ tl).take (xs.length * 2) = flatV xs
      rw [← flatV_len xs, List.take_left']
      rfl
    · show Value.agg _ = _
      rw [List.getElem_map]
      rfl
theorem heap_setCells_mid {g : Nat} {e : TypeId} {fz : Nat × Nat} : ∀ (vs M A C : List Value) (w : World), M.length = vs.length → w.heap[g]? = some (.cells (A ++ M ++ C).toArray e fz) → (w.setCells g A.length vs).heap[g]? = some (.cells (A ++ vs ++ C).toArray e fz)
  | [], M, A, C, w, h, hg => by
    have : M = [] := List.eq_nil_of_length_eq_zero (by simpa using h)
    subst this; exact hg
  | v :: r, [], A, C, w, h, hg => by simp at h
  | v :: r, m :: M, A, C, w, h, hg => by
    have hg' : (w.setCell ⟨g, A.length, none⟩ v).heap[g]? = some (.cells ((A ++ [v]) ++ M ++ C).toArray e fz) := by
      simp only [World.setCell, Array.getElem?_modify, if_true, hg, Option.map_some]
      simp
    have := heap_setCells_mid r M (A ++ [v]) C _ (by simpa using h) hg'
    rw [World.setCells]
    have e1 : (A ++ [v]).length = A.length + 1 := by simp
    rw [e1] at this
    rw [this]; simp
theorem row_grown {w : World} {g o : Nat} {vs : List Value} : w.grownBy (w.setCells g o vs) (some g) := by
  refine ⟨World.os_setCells w g o vs, ?_, World.output_setCells w g o vs, ?_, fun k hk hne => World.heap_setCells_other w g o vs hk fun e => hne (by rw [e])⟩
  · revert o w
    induction vs with
    | nil => intros; rfl
    | cons v r ih => intro w o; rw [World.setCells]; exact ih
  · revert o w
    induction vs with
    | nil => intros; exact Nat.le_refl _
    | cons v r ih =>
      intro w o; rw [World.setCells]
      refine Nat.le_trans ?_ ih
      simp [World.setCell]
theorem row_cell {w : World} {g cap : Nat} {e : TypeId} {xs : List Vx} (h : RowAt w g cap e xs) (j : Nat) (hj : j < xs.length * 2) : w.cell? ⟨g, j, none⟩ = (flatV xs)[j]? ∧ w.frozen? ⟨g, j, none⟩ = false := by
  obtain ⟨tl, hg, _⟩ := h
  refine ⟨?_, by simp [World.frozen?, hg]⟩
  simp only [World.cell?, hg]
  simp only [Option.isSome_none, Bool.false_eq_true, if_false]
  rw [List.getElem?_toArray, List.getElem?_append_left (by rw [flatV_len]; exact hj)]
section
variable {P : Program} {ops : Array Oper} {hp : List HObj} {o : Oper} {fr : List Dat} {d : Dat} {Q : Post} {rest : List Oper}
variable {dst : Option Tmp} {ty : TypeId} {ps : String} {af : Array Edge} {g : Option (Nat × Bool)} {b cap : Nat} {e t T : TypeId} {xs : List Vx} {bytes : Nat} {z : Value} {ag : Bool}
abbrev hV (b N cap : Nat) (e : TypeId) (xs : List Vx) : HObj := hRowK (.slice (some ⟨b, 0, none⟩) N cap) e 2 RV xs
theorem hV_row {I : Nat → Prop} {w : World} {N : Nat} : (hV b N cap e xs).ok I w ↔ N = xs.length ∧ RowAt w b cap e xs := by
  constructor
  · intro h
    have hN : N = xs.length := by
      obtain ⟨us, h1, h2, h0, ⟨_, h3⟩, h4⟩ := h
      rcases h3 with ⟨hz, _⟩ | ⟨g, cap, cur, hv, _⟩
      · cases hz
      · cases hv; rfl
    subst hN
    exact ⟨rfl, ownK_rowAt.1 h⟩
  · rintro ⟨rfl, h⟩
    exact ownK_rowAt.2 h
theorem SY.fromO {x y : Operand} {off n m l : Nat} {j : Int} (E : ElT P t e 2 z bytes ag) (hx : OpD fr x (dX (.slice (some ⟨b, off, none⟩) n m))) (hy : OpD fr y (dI j)) (hj : j = (l : Int)) (hl : l < n) (hm : n ≤ m) :
    SY P ops hp { dst := dst, op := .slice t x (some y) none none, type := ty, pos := ps, after := af, guard := g } fr (dX (.slice (some ⟨b, off + l * 2, none⟩) (n - l) (m - l))) := SY.val fun {I w a} ho => by
  have h1 : a.eval x = _ := hx.get (by simp [Op.operands]) ho
  have h2 : a.eval y = _ := hy.get (by simp [Op.operands]) ho
  refine ⟨_, ?_, rfl⟩
  have hr := run_slice (w := w) (ad := some ⟨b, off, none⟩) (len := n) (cap := m) (lo := some (.int .i64 (l : Int))) (hi := none) (l := l) (h := n) E (.inr ⟨_, rfl⟩) (.inl ⟨rfl, rfl⟩) (by omega) hm
  rw [if_neg (by omega)] at hr
  unfold execOp
  simp only [h1, h2, hj, Option.map_none, Option.map_some, Sem.run_bind, hr, Result.andThen_ok, Sem.run_pure]
  simp [Addr.add_lit]
theorem WC.cutO {c : Code} {N k : Nat} (hk : k ≤ xs.length) (h : WC P Q c fr (hV b k cap e (xs.take k) :: hp)) : WC P Q c fr (hV b N cap e xs :: hp) := WC.of fun P0 B w0 w a hh hf => by
  obtain ⟨hN, tl, hg, hc1, hc2, hc3⟩ := hV_row.1 (hh.ok (hV b N cap e xs) (by simp))
  have hgr : w.grownBy w (hV b N cap e xs).blk := ⟨rfl, rfl, rfl, Nat.le_refl _, fun _ _ _ => rfl⟩
  have e1 : flatV xs ++ tl = flatV (xs.take k) ++ (flatV (xs.drop k) ++ tl) := by rw [← List.append_assoc, ← flatV_app, List.take_append_drop]
  have hok : (hV b k cap e (xs.take k)).ok (fun j => Imm P0 B (hV b N cap e xs :: hp) j ∧ j < w.heap.size) w :=
    hV_row.2 ⟨by simp; omega, flatV (xs.drop k) ++ tl, by rw [← e1]; exact hg, by simp; omega, hc2, by rw [← e1]; exact hc3⟩
  exact h.on (hh.write hgr (.inl rfl) hok) (hf.mono fun _ _ hd => Hp.written (o' := hV b k cap e (xs.take k)) hgr (.inl rfl) hd)
end
end Go.Proofs.YtgppfikidagfpaaGreatDoor
