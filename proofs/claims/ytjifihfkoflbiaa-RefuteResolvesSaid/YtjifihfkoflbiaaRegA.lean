/-
  Appends inside a region that draws its order; what such a region keeps.
-/
import Derived.Test.YtjifihfkoflbiaaPTrim
import Derived.Deep.RegionHeld3
namespace Go.Proofs.Ytjifihfkoflbiaa
open Go.RowKit

section
variable {P : Program} {ops : Array Oper} {o : Oper} {a : Act} {w : World} {t e : TypeId} {bytes : Nat} {z : Value}

theorem app_run (E : ElT P t e 1 z bytes false) {ty1 : TypeId} {B : Nat} {α : Type} {R : Rel α} [Good R] {PB PY : Nat → Prop} {v yv : Value} {xs ys : List α}
    (hv : Own B e R PB w v xs) (hys : Arr R PY w yv ys) (hP : ∀ b, PY b → b < w.heap.size → PB b ∧ v.ownBlock ≠ some b) (hB : B ≤ w.heap.size) (hlen : (xs.length + ys.length) * bytes ≤ 140737488355328) (hby : 0 < bytes) :
    ∃ v' w', (Builtin.append_ #[t, t] ty1 #[v, yv]).run P w = .ok v' w' ∧ Own B e R PB w' v' (xs ++ ys) ∧ Below B w w' ∧ w.grownBy w' v.ownBlock ∧ (v'.ownBlock = v.ownBlock ∨ v'.ownBlock = some w.heap.size) := by
  have hys' := Good.bound hys
  obtain ⟨us, hl, hown, he⟩ := hv
  obtain ⟨i, hi, hz, hsz, hb⟩ := info_parts E.info
  obtain ⟨ya, ycap, rfl, y1, y2, y3⟩ := hys'
  have hm : xs.length + ys.length ≤ maxLen := by
    have : (xs.length + ys.length) * 1 ≤ (xs.length + ys.length) * bytes := Nat.mul_le_mul_left _ hby
    simp only [maxLen]; omega
  cases ya with
  | none =>
    have hy0 : ys = [] := by
      cases ys with
      | nil => rfl
      | cons y ys => obtain ⟨_, _, _, _, _, hc, _⟩ := y3 0 (by simp); cases hc
    subst hy0
    exact ⟨v, w, run_append_none E hown ycap, by rw [List.append_nil]; exact ⟨us, hl, hown, he⟩, Below.refl _ _, ⟨rfl, rfl, rfl, Nat.le_refl _, fun _ _ _ => rfl⟩, .inl rfl⟩
  | some ad =>
    have hex : ∃ news : List Value, news.length = ys.length ∧ (∀ j u, news[j]? = some u → w.cell? (ad.add j) = some u) ∧ (∀ u ∈ news, u.oneCell' = true) ∧
        ∀ k (h : k < news.length) (h' : k < ys.length), news[k].oneCell' = true ∧ R (fun b => PB b ∧ v.ownBlock ≠ some b) w news[k] ys[k] := by
      have hch : ∀ k : Nat, ∃ u : Value, ∀ h : k < ys.length, w.cell? (ad.add k) = some u ∧ u.oneCell' = true ∧ R (fun b => PB b ∧ v.ownBlock ≠ some b) w u ys[k] := by
        intro k
        by_cases hk : k < ys.length
        · obtain ⟨u, b, off, r1, r2, r3, r4, r5⟩ := y3 k hk
          cases r3
          refine ⟨u, fun _ => ⟨by rw [Addr.add_lit]; exact r5, r2, Good.weak r1 (fun b hb => hP b hb.1 hb.2)⟩⟩
        · exact ⟨undef, fun h => absurd h hk⟩
      obtain ⟨f, hf⟩ := Classical.axiomOfChoice hch
      refine ⟨(List.range ys.length).map f, by simp, ?_, ?_, ?_⟩
      · intro j u hj
        obtain ⟨hjl, hju⟩ := List.getElem?_eq_some_iff.1 hj
        simp at hjl hju
        subst hju
        exact (hf j hjl).1
      · intro u hu
        simp only [List.mem_map, List.mem_range] at hu
        obtain ⟨j, hj, rfl⟩ := hu
        exact (hf j hj).2.1
      · intro k h1 h2
        simp only [List.getElem_map, List.getElem_range]
        exact ⟨(hf k h2).2.1, (hf k h2).2.2⟩
    obtain ⟨news, hn, hc, h1, hr2⟩ := hex
    obtain ⟨v', w', hr, r1, r2, r3, r4⟩ := run_append_own_at (P := P) w B t ty1 e i z 1 bytes E.und hi hz hsz hb E.zs Nat.one_pos v xs.length us hown ad ys.length ycap news (by omega) hc h1 hm hlen hB
    exact ⟨v', w', hr, own_push hl hn r1 r2 (Nat.le_refl _) r4 rfl he hr2, below_of_grown hB r2 (fun k hk => (hown.lt k hk).1), r2, r4⟩

/-- append(v, ys...), inside a region that draws its order -/
theorem r_app {s y : Operand} {dst : Option Tmp} {ty1 : TypeId} {ps1 : String} {af1 : Array Edge} {K : Act → World → Prop} {Q : Exit → Act → World → Prop} {X : Prop} (E : ElT P t e 1 z bytes false)
    {B : Nat} {α : Type} {R : Rel α} [Good R] {PB PY : Nat → Prop} {v yv : Value} {xs ys : List α} (hs : a.eval s = v) (hy : a.eval y = yv)
    (hv : Own B e R PB w v xs) (hys : Arr R PY w yv ys) (hP : ∀ b, PY b → b < w.heap.size → PB b ∧ v.ownBlock ≠ some b) (hB : B ≤ w.heap.size) (hlen : (xs.length + ys.length) * bytes ≤ 140737488355328) (hby : 0 < bytes)
    (h : ∀ (v' : Value) (w' : World), Own B e R PB w' v' (xs ++ ys) → Below B w w' → w.grownBy w' v.ownBlock → (v'.ownBlock = v.ownBlock ∨ v'.ownBlock = some w.heap.size) → K (a.put dst v') w') :
    if Region.wanted { dst := dst, op := .call { callee := .builtin .append, args := #[s, y], argTypes := #[t, t] }, type := ty1, pos := ps1, after := af1, guard := none } (yielded ops a.tmps) = true then
      Oper.wp P { dst := dst, op := .call { callee := .builtin .append, args := #[s, y], argTypes := #[t, t] }, type := ty1, pos := ps1, after := af1, guard := none } a w K Q else X := by
  rw [if_pos (by rfl)]
  obtain ⟨v', w', hr, h1, h2, h3, h4⟩ := app_run (ty1 := ty1) E hv hys hP hB hlen hby
  unfold Oper.wp execOp
  simp only [resolve, invoke, builtin, List.map_toArray, List.map_cons, List.map_nil, hs, hy, Sem.run_bind, Sem.run_pure, Result.andThen_ok, hr]
  exact h v' w' h1 h2 h3 h4

/-- a block of two cells that an append has not touched -/
theorem two_kept {W w' : World} {row : Option Nat} {n : Nat} {x y : Value} {t : TypeId} (hg : W.grownBy w' row) (hn : W.heap[n]? = some (.cells #[x, y] t (0, 0))) (hne : some n ≠ row) :
    w'.cell? ⟨n, 0, none⟩ = some x ∧ w'.cell? ⟨n, 1, none⟩ = some y ∧ w'.frozen? ⟨n, 0, none⟩ = false ∧ w'.frozen? ⟨n, 1, none⟩ = false := by
  have hlt : n < W.heap.size := (Array.getElem?_eq_some_iff.1 hn).1
  have h := (hg.block n hlt hne).trans hn
  simp [World.cell?, World.frozen?, h]
/-- what a region keeps of a box of two cells -/
theorem keepS {w0 w w' : World} {B : Nat} {x y : Value} (h : Ext w0 w ∧ w.cell? ⟨B, 0, none⟩ = some x ∧ w.cell? ⟨B, 1, none⟩ = some y) (e : Ext w w') : Ext w0 w' ∧ w'.cell? ⟨B, 0, none⟩ = some x ∧ w'.cell? ⟨B, 1, none⟩ = some y :=
  ⟨h.1.trans e, e.cell h.2.1, e.cell h.2.2⟩
theorem keepB {w0 w w' : World} {B : Nat} {x y : Value} (h : Ext w0 w ∧ w.cell? ⟨B, 0, none⟩ = some x ∧ w.cell? ⟨B, 1, none⟩ = some y) (hB : B < w0.heap.size) (e : Below w0.heap.size w w') : Ext w0 w' ∧ w'.cell? ⟨B, 0, none⟩ = some x ∧ w'.cell? ⟨B, 1, none⟩ = some y :=
  ⟨Below.trans h.1 e, (Below.cell e hB).trans h.2.1, (Below.cell e hB).trans h.2.2⟩
theorem keepS_set {w0 w : World} {B : Nat} {x y v : Value} {a : Addr} (h : Ext w0 w ∧ w.cell? ⟨B, 0, none⟩ = some x ∧ w.cell? ⟨B, 1, none⟩ = some y) (hB : B < w0.heap.size) (ha : w0.heap.size ≤ a.block) : Ext w0 (w.setCell a v) ∧ (w.setCell a v).cell? ⟨B, 0, none⟩ = some x ∧ (w.setCell a v).cell? ⟨B, 1, none⟩ = some y :=
  ⟨Below.setCell h.1 ha v, by rw [World.cell?_setCell_other (h := fun e => by rw [e] at ha; exact absurd ha (Nat.not_le.2 hB))]; exact h.2.1, by rw [World.cell?_setCell_other (h := fun e => by rw [e] at ha; exact absurd ha (Nat.not_le.2 hB))]; exact h.2.2⟩
theorem grownBy_setCell (w : World) (a : Addr) (v : Value) : w.grownBy (w.setCell a v) (some a.block) := by
  have h := Below.setCell (Below.refl a.block w) (Nat.le_refl _) v
  exact ⟨h.os, h.tape, h.output, h.size, fun k _ hne => Below.heap_setCell w a v k (fun e => hne (by rw [← e]))⟩
theorem Own.setCell {α : Type} {R : Rel α} [Good R] {B : Nat} {e : TypeId} {w : World} {v : Value} {xs : List α} (h : Own B e R (fun k => k < B) w v xs) {a : Addr} (hne : v.ownBlock ≠ some a.block) (ha : B ≤ a.block) (x : Value) : Own B e R (fun k => k < B) (w.setCell a x) v xs :=
  h.kept (grownBy_setCell w a x) (.inr hne) (fun k hk hlt => by cases hk; omega)
/-- a struct of an int and rows, in a block of its own, beside a box -/
structure Wide (w4 : World) (B : Nat) (x y : Value) (n : Nat) (x' v : Value) (L : List (List Int)) (W : World) : Prop where
  ext : Ext w4 W
  b0 : W.cell? ⟨B, 0, none⟩ = some x
  b1 : W.cell? ⟨B, 1, none⟩ = some y
  n0 : W.cell? ⟨n, 0, none⟩ = some x'
  n1 : W.cell? ⟨n, 1, none⟩ = some v
  rows : Rows anyB W v L
theorem wide_set {w4 w9 : World} {B n : Nat} {x y x' v z0 z1 : Value} {L : List (List Int)} {e : TypeId} (hS : Ext w4 w9 ∧ w9.cell? ⟨B, 0, none⟩ = some x ∧ w9.cell? ⟨B, 1, none⟩ = some y) (hB : B < w4.heap.size) (hn : w4.heap.size ≤ n)
    (q0 : w9.cell? ⟨n, 0, none⟩ = some z0) (q1 : w9.cell? ⟨n, 1, none⟩ = some z1) (ho : Own w4.heap.size e (Arr RI) (fun k => k < w4.heap.size) w9 v L) (hne : v.ownBlock ≠ some n) :
    Wide w4 B x y n x' v L ((w9.setCell ⟨n, 0, none⟩ x').setCell ⟨n, 1, none⟩ v) := by
  obtain ⟨h1, h2, h3⟩ := keepS_set (v := v) (a := ⟨n, 1, none⟩) (keepS_set (v := x') (a := ⟨n, 0, none⟩) hS hB hn) hB hn
  refine ⟨h1, h2, h3, ?_, ?_, ((ho.setCell (a := ⟨n, 0, none⟩) hne hn x').setCell (a := ⟨n, 1, none⟩) hne hn v).arr.any⟩
  · rw [World.cell?_setCell_other (h := by simp)]
    exact World.cell?_setCell_same _ _ _ q0
  · have q1' : (w9.setCell ⟨n, 0, none⟩ x').cell? ⟨n, 1, none⟩ = some z1 := by
      rw [World.cell?_setCell_other (h := by simp)]
      exact q1
    exact World.cell?_setCell_same _ _ _ q1'
theorem wide_new {w4 w9 : World} {B : Nat} {x y x' v : Value} {L : List (List Int)} {e t : TypeId} (hS : Ext w4 w9 ∧ w9.cell? ⟨B, 0, none⟩ = some x ∧ w9.cell? ⟨B, 1, none⟩ = some y) (ho : Own w4.heap.size e (Arr RI) (fun k => k < w4.heap.size) w9 v L) :
    Wide w4 B x y w9.heap.size x' v L (w9.alloc (.cells #[x', v] t)) := by
  obtain ⟨h1, h2, h3⟩ := keepS hS (Ext.of_alloc w9 (.cells #[x', v] t))
  exact ⟨h1, h2, h3, by unfold World.cell?; rw [World.alloc_heap_new]; rfl, by unfold World.cell?; rw [World.alloc_heap_new]; rfl, (ho.ext (Ext.of_alloc _ _)).arr.any⟩
end

/-- a statement's post, said ahead of it -/
theorem wp_then {P : Program} {code : Code} {Q : Exit → Act → World → Prop} {a0 : Act} {w : World} (T : Act → Act → World → Prop) (h1 : code.wp P (Exit.then (T a0) (fun _ _ _ => False)) a0 w) (h2 : ∀ a w', T a0 a w' → Q .normal a w') : code.wp P Q a0 w :=
  Code.wp_mono (fun e a w' h => by
    cases e with
    | normal => exact h2 a w' h
    | _ => exact (h : False).elim) h1

end Go.Proofs.Ytjifihfkoflbiaa
