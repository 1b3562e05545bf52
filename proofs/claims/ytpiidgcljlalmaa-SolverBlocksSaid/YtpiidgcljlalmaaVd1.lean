/- Part 1: walks by contracts, and plain laws. -/
import Derived.Test.YtpiidgcljlalmaaVa32
set_option linter.unusedVariables false
set_option linter.unusedSimpArgs false
set_option linter.unusedSectionVars false
namespace Go.Proofs.Ytpiidgcljlalmaa
open Go.RowKit

section
variable {P : Program} {ops : Array Oper} {hp : List HObj} {o : Oper} {fr : List Dat} {d : Dat} {Q : Post} {rest : List Oper}
variable {dst : Option Tmp} {ty : TypeId} {ps : String} {af : Array Edge} {g : Option (Nat × Bool)}

theorem bare_I {n : Int} : (dI n).Bare := fun _ _ _ _ _ h => h

end

end Go.Proofs.Ytpiidgcljlalmaa
namespace Go.Proofs.Ytpiidgcljlalmaa
open Go.RowKit

section
variable {P : Program} {ops : Array Oper} {hp : List HObj} {o : Oper} {fr : List Dat} {d : Dat} {Q : Post} {rest : List Oper}
variable {dst : Option Tmp} {ty : TypeId} {ps : String} {af : Array Edge} {g : Option (Nat × Bool)}

theorem WL.freeze {t b n : Nat} {T : TypeId} {agg : Bool} (hp0 : fr[t]? = some (dX (.pointer (some ⟨b, 0, none⟩)))) (h : WL P ops Q rest (fr.set t (dP n agg d)) hp) : WL P ops Q rest fr (hCell b T n agg d :: hp) := by
  refine WL.of fun P0 B w0 w a hh hf => ?_
  obtain ⟨cs, u, c1, c2, c0, c3, c4, c5⟩ := hh.ok (hCell b T n agg d) (by simp)
  have hown := hh.own (hCell b T n agg d) (by simp) b rfl
  refine h.on hh.drop ⟨hf.defers, by rw [hf.size, List.length_set], fun t' d' hd' => ?_⟩
  by_cases htt : t = t'
  · subst htt
    rw [List.getElem?_set] at hd'
    simp only [if_true] at hd'
    split at hd'
    · cases hd'
      have hv : a.tmps.getD t undef = .pointer (some ⟨b, 0, none⟩) := hf.rd t _ hp0
      rw [hv]
      refine ⟨b, 0, u, rfl, cells_of_obj c1 c2 c0 c3 c4 ⟨.inr hown.1, fun o' ho' hk => ?_⟩, d.weak c5 Imm.sub⟩
      exact (List.pairwise_cons.1 hh.apart).1 o' ho' b rfl hk
    · cases hd'
  · rw [List.getElem?_set_ne htt] at hd'
    exact d'.weak (hf.rd t' d' hd') Imm.sub
theorem WL.storeF {x : Operand} {t b n : Nat} {T T2 : TypeId} {agg : Bool} {d0 : Dat} (hT : TyI P T n agg) (hp0 : fr[t]? = some (dX (.pointer (some ⟨b, 0, none⟩)))) (hx : OpD fr x d) (hs : d.Shape n agg)
    (h : WL P ops Q rest (fr.set t (dP n agg d)) hp) : WL P ops Q ({ dst := none, op := .store T (.tmp t) x, type := ty, pos := ps, after := af, guard := none } :: rest) fr (hCell b T2 n agg d0 :: hp) :=
  WL.storeK hT (OpD.t hp0) hx hs (WL.freeze hp0 h)
end

end Go.Proofs.Ytpiidgcljlalmaa
namespace Go.Proofs.Ytpiidgcljlalmaa
open Go.RowKit

section
variable {P : Program} {ops : Array Oper} {hp : List HObj} {o : Oper} {fr : List Dat} {d : Dat} {Q : Post} {rest : List Oper}
variable {dst : Option Tmp} {ty : TypeId} {ps : String} {af : Array Edge} {g : Option (Nat × Bool)}
variable {t e : TypeId} {n bytes : Nat} {z : Value} {ag : Bool}

theorem eval_put_ne {a : Act} {k : Tmp} {u : Value} {x : Operand} (h : x ≠ .tmp k) : (a.put (some k) u).eval x = a.eval x := by
  cases x with
  | tmp t =>
    have : k ≠ t := fun e => h (by rw [e])
    simp [Act.eval, Act.put, Array.getD_eq_getD_getElem?, this]
  | _ => rfl
theorem eval_put_same {a : Act} {k : Tmp} {u : Value} (h : k < a.tmps.size) : (a.put (some k) u).eval (.tmp k) = u := by
  simp [Act.eval, Act.put, Array.getD_eq_getD_getElem?, h]
theorem WL.pushK {s x : Operand} {k : Tmp} {dst2 : Option Tmp} {ty2 : TypeId} {ps2 : String} {af2 : Array Edge} (E : ElT P t e n z bytes ag) {α : Type} {R : Rel α} {_gR : Good R} {v : Value} {xs : List α} {y : α} (hs : OpD fr s (dX v)) (hx : OpD fr x (dS R y)) (hsh : ∀ a, (dS R a).Shape n true) (hne : s ≠ .tmp k) (hkl : k < fr.length) (hn : 0 < n ∧ n ≤ 16777216) (hby : 0 < bytes)
    (hlen : (xs.length + 1) * bytes ≤ 140737488355328) (h : ∀ v', WL P ops Q rest (setD (fr.set k dA) dst2 (dX v')) (hRowK v' e n R (xs ++ [y]) :: hp)) :
    WL P ops Q ({ dst := some k, op := .buildSlice t 1 #[(0, x)], type := ty, pos := ps, after := af, guard := none } :: { dst := dst2, op := .call { callee := .builtin .append, args := #[s, .tmp k], argTypes := #[t, t] }, type := ty2, pos := ps2, after := af2, guard := none } :: rest) fr (hRowK v e n R xs :: hp) := by
  refine WL.of fun P0 B w0 w a hh hf => ?_
  have hxr := hx.ev hf
  obtain ⟨cs, k1, k0, k2, k3, k4⟩ := hsh y _ _ _ hxr
  simp only [if_true] at k4
  have hb := run_buildN (w := w) E (us := [a.eval x]) (css := [cs]) rfl (fun i u cs' hu hcs => by
    cases i with
    | zero => cases hu; cases hcs; exact ⟨k3, k1⟩
    | succ i => simp at hu) (by simp; omega)
  refine wpList_value rfl (v := .slice (some ⟨w.heap.size, 0, none⟩) 1 1) (w' := w.alloc (.cells [cs].flatten.toArray e)) ?_ ?_
  · unfold execOp
    simp only [List.map_toArray, List.map_cons, List.map_nil, Sem.run_bind]
    have : (Instr.buildSlice t 1 #[(0, a.eval x)]).run P w = .ok (.slice (some ⟨w.heap.size, 0, none⟩) 1 1) (w.alloc (.cells [cs].flatten.toArray e)) := hb
    simp only [this, Result.andThen_ok, Sem.run_pure]
  have hxe := Ext.of_alloc w (.cells [cs].flatten.toArray e)
  have hh1 := hh.ext hxe
  have hf1 : Fr (Imm P0 B (hRowK v e n R xs :: hp)) (w.alloc (.cells [cs].flatten.toArray e)) (a.put (some k) (.slice (some ⟨w.heap.size, 0, none⟩) 1 1)) (fr.set k dA) := Fr.put (x := some k) (hf.ext hxe) (d := dA) trivial
  have hm : xs.length + [y].length ≤ maxLen := by
    have : (xs.length + 1) * 1 ≤ (xs.length + 1) * bytes := Nat.mul_le_mul_left _ hby
    simp only [maxLen, List.length_cons, List.length_nil]; omega
  obtain ⟨v', w', hr, r1, r2, r3⟩ := appK_step (ty := ty2) E hh1 (ad := ⟨w.heap.size, 0, none⟩) (c := 1) (ys := [y]) (news := [cs]) rfl (fun j u hu => by
      rw [Addr.add_lit, cell_of_row _ _ _ _ _ _ (alloc_get w _), Nat.zero_add]
      simpa using hu) (fun u hu => by rw [List.mem_singleton.1 hu]; exact ⟨k1, k2⟩) (fun j h1 h2 => by
      have hj : j = 0 := by simp at h1; omega
      subst hj
      have := Good.ext (R := R) hxr hxe
      rw [k4] at this
      exact this) (by simpa using hlen) hm
  refine wp_append (v := v) (yv := .slice (some ⟨w.heap.size, 0, none⟩) 1 1) ?_ (eval_put_same (by rw [hf.size]; exact hkl)) hr ?_
  · rw [eval_put_ne hne]; exact hs.ev hf
  · exact (h v').on r1 (Fr.put (x := dst2) (hf1.mono fun d _ hd => Hp.written (o := hRowK v e n R xs) (o' := hRowK v' e n R (xs ++ [y])) r2 r3 hd) (d := dX v') rfl)
theorem WL.push1 {s x : Operand} {k : Tmp} {dst2 : Option Tmp} {ty2 : TypeId} {ps2 : String} {af2 : Array Edge} (E : ElT P t e 1 z bytes ag) {α : Type} {R : Rel α} {_gR : Good R} {v : Value} {xs : List α} {y : α} (hs : OpD fr s (dX v)) (hx : OpD fr x (dS R y)) (hsh : ∀ a, (dS R a).Shape 1 false) (hne : s ≠ .tmp k) (hkl : k < fr.length) (hby : 0 < bytes)
    (hlen : (xs.length + 1) * bytes ≤ 140737488355328) (h : ∀ v', WL P ops Q rest (setD (fr.set k dA) dst2 (dX v')) (hRow v' e R (xs ++ [y]) :: hp)) :
    WL P ops Q ({ dst := some k, op := .buildSlice t 1 #[(0, x)], type := ty, pos := ps, after := af, guard := none } :: { dst := dst2, op := .call { callee := .builtin .append, args := #[s, .tmp k], argTypes := #[t, t] }, type := ty2, pos := ps2, after := af2, guard := none } :: rest) fr (hRow v e R xs :: hp) := by
  refine WL.of fun P0 B w0 w a hh hf => ?_
  have hxr := hx.ev hf
  obtain ⟨cs, k1, k0, k2, k3, k4⟩ := hsh y _ _ _ hxr
  simp only [Bool.false_eq_true, if_false] at k4
  subst k4
  have hb := run_buildN (w := w) E (us := [a.eval x]) (css := [[a.eval x]]) rfl (fun i u cs' hu hcs => by
    cases i with
    | zero => cases hu; cases hcs; exact ⟨k3, k1⟩
    | succ i => simp at hu) (by simp)
  refine wpList_value rfl (v := .slice (some ⟨w.heap.size, 0, none⟩) 1 1) (w' := w.alloc (.cells [[a.eval x]].flatten.toArray e)) ?_ ?_
  · unfold execOp
    simp only [List.map_toArray, List.map_cons, List.map_nil, Sem.run_bind]
    have : (Instr.buildSlice t 1 #[(0, a.eval x)]).run P w = .ok (.slice (some ⟨w.heap.size, 0, none⟩) 1 1) (w.alloc (.cells [[a.eval x]].flatten.toArray e)) := hb
    simp only [this, Result.andThen_ok, Sem.run_pure]
  have hxe := Ext.of_alloc w (.cells [[a.eval x]].flatten.toArray e)
  have hh1 := hh.ext hxe
  have hf1 : Fr (Imm P0 B (hRow v e R xs :: hp)) (w.alloc (.cells [[a.eval x]].flatten.toArray e)) (a.put (some k) (.slice (some ⟨w.heap.size, 0, none⟩) 1 1)) (fr.set k dA) := Fr.put (x := some k) (hf.ext hxe) (d := dA) trivial
  have hm : xs.length + [y].length ≤ maxLen := by
    have : (xs.length + 1) * 1 ≤ (xs.length + 1) * bytes := Nat.mul_le_mul_left _ hby
    simp only [maxLen, List.length_cons, List.length_nil]; omega
  obtain ⟨v', w', hr, r1, r2, r3⟩ := app1_step (ty := ty2) E hh1 (ad := ⟨w.heap.size, 0, none⟩) (c := 1) (ys := [y]) (news := [a.eval x]) rfl (fun j u hu => by
      rw [Addr.add_lit, cell_of_row _ _ _ _ _ _ (alloc_get w _), Nat.zero_add]
      simpa using hu) k2 (fun j h1 h2 => by
      have hj : j = 0 := by simp at h1; omega
      subst hj
      exact Good.ext (R := R) hxr hxe) (by simpa using hlen) hm
  refine wp_append (v := v) (yv := .slice (some ⟨w.heap.size, 0, none⟩) 1 1) ?_ (eval_put_same (by rw [hf.size]; exact hkl)) hr ?_
  · rw [eval_put_ne hne]; exact hs.ev hf
  · exact (h v').on r1 (Fr.put (x := dst2) (hf1.mono fun d _ hd => Hp.written (o := hRow v e R xs) (o' := hRow v' e R (xs ++ [y])) r2 r3 hd) (d := dX v') rfl)

end

end Go.Proofs.Ytpiidgcljlalmaa
namespace Go.Proofs.Ytpiidgcljlalmaa
open Go.RowKit

section
variable {P : Program} {ops : Array Oper} {hp : List HObj} {md : Region.Mode} {w : World}

end

section
variable {P : Program} {ops : Array Oper} {hp : List HObj} {o : Oper} {fr : List Dat} {d : Dat} {Q : Post} {rest : List Oper}
variable {dst : Option Tmp} {ty : TypeId} {ps : String} {af : Array Edge} {g : Option (Nat × Bool)}
variable {t e : TypeId} {n bytes : Nat} {z : Value} {ag : Bool}
theorem FinD.nilE {α : Type} {R : Rel α} [Good R] {ys : List α} (he : ys = []) : FinD hp (dX (.slice none 0 0)) (dS (Arr R) ys) := by subst he; exact FinD.le Dat.le_nil
end

end Go.Proofs.Ytpiidgcljlalmaa
namespace Go.Proofs.Ytpiidgcljlalmaa
open Go.RowKit
section
variable {P : Program} {ops : Array Oper} {hp : List HObj} {o : Oper} {fr : List Dat} {d : Dat} {dst : Option Tmp} {ty : TypeId} {ps : String} {af : Array Edge} {g : Option (Nat × Bool)}
theorem SY.makeFun {f : FuncId} {caps : Array Operand} {cs : List Dat} {α : Type} {A : α → List Dat} {r : α → Dat} (he : Enters P f) (h : ∀ x, Fn P f (A x ++ cs) (r x)) (hr : ∀ x, (r x).Bare) (ha : ArgsD fr caps.toList cs) :
    SY P ops hp { dst := dst, op := .makeFunc (.func f) #[] caps, type := ty, pos := ps, after := af, guard := g } fr (dFun P A r) := SY.val fun {I w a} ho => by
  refine ⟨.func (.func f) #[] (caps.map a.eval), by unfold execOp; simp [Instr.makeFunc], f, _, rfl, he, fun w' hw' x I' vs hl hv => ?_⟩
  have hcap : ∀ (i : Nat) (d : Dat), cs[i]? = some d → d.rd I w' ((caps.toList.map a.eval).getD i undef) := fun i d hd => by
    have hi : i < caps.toList.length := by rw [ha.1]; exact (List.getElem?_eq_some_iff.1 hd).1
    have h2 := ha.2 i _ d (List.getElem?_eq_getElem hi) hd
    have := h2.get (by simp only [Op.operands]; simp) ho
    have hi' : i < caps.size := by simpa using hi
    have := d.move this hw'
    simpa [List.getD, hi'] using this
  have := (h x).out (fun b => I' b ∨ I b) w' (vs ++ caps.toList.map a.eval) (by have := ha.1; simp at this; simp [hl, this]) fun i d hd => by
    by_cases hi : i < (A x).length
    · rw [List.getElem?_append_left hi] at hd
      have := hv i d hd
      have hi2 : i < vs.length := by omega
      rw [List.getD_eq_getElem?_getD, List.getElem?_append_left hi2, ← List.getD_eq_getElem?_getD]
      exact d.weak this fun _ => .inl
    · rw [List.getElem?_append_right (by omega)] at hd
      have := hcap _ d hd
      rw [List.getD_eq_getElem?_getD, List.getElem?_append_right (by omega), ← List.getD_eq_getElem?_getD, hl]
      exact d.weak this fun _ => .inr
  have he : (vs ++ caps.toList.map a.eval).toArray = vs.toArray ++ caps.map a.eval := by apply Array.ext'; simp
  rw [he] at this
  exact this.mono fun e w'' ⟨u, h1, h2, h3⟩ => ⟨u, h1, h2, hr x _ _ _ _ _ h3⟩
end
end Go.Proofs.Ytpiidgcljlalmaa
namespace Go.Proofs.Ytpiidgcljlalmaa.I
open Go.RowKit
open Go.RowKit





open Go.RowKit

section
variable {P : Program} {ops : Array Oper} {hp : List HObj} {o : Oper} {fr : List Dat} {d : Dat} {Q : Post} {rest : List Oper}
variable {dst : Option Tmp} {ty : TypeId} {ps : String} {af : Array Edge} {g : Option (Nat × Bool)}


end


open Go.RowKit

section
variable {P : Program} {ops : Array Oper} {hp : List HObj} {o : Oper} {fr : List Dat} {d : Dat} {Q : Post} {rest : List Oper}
variable {dst : Option Tmp} {ty : TypeId} {ps : String} {af : Array Edge} {g : Option (Nat × Bool)}

theorem WL.freeze {t b n : Nat} {T : TypeId} {agg : Bool} (hp0 : fr[t]? = some (dX (.pointer (some ⟨b, 0, none⟩)))) (h : WL P ops Q rest (fr.set t (dP n agg d)) hp) : WL P ops Q rest fr (hCell b T n agg d :: hp) := by
  refine WL.of fun P0 B w0 w a hh hf => ?_
  obtain ⟨cs, u, c1, c2, c0, c3, c4, c5⟩ := hh.ok (hCell b T n agg d) (by simp)
  have hown := hh.own (hCell b T n agg d) (by simp) b rfl
  refine h.on hh.drop ⟨hf.defers, by rw [hf.size, List.length_set], fun t' d' hd' => ?_⟩
  by_cases htt : t = t'
  · subst htt
    rw [List.getElem?_set] at hd'
    simp only [if_true] at hd'
    split at hd'
    · cases hd'
      have hv : a.tmps.getD t undef = .pointer (some ⟨b, 0, none⟩) := hf.rd t _ hp0
      rw [hv]
      refine ⟨b, 0, u, rfl, cells_of_obj c1 c2 c0 c3 c4 ⟨.inr hown.1, fun o' ho' hk => ?_⟩, d.weak c5 Imm.sub⟩
      exact (List.pairwise_cons.1 hh.apart).1 o' ho' b rfl hk
    · cases hd'
  · rw [List.getElem?_set_ne htt] at hd'
    exact d'.weak (hf.rd t' d' hd') Imm.sub
theorem WL.storeF {x : Operand} {t b n : Nat} {T T2 : TypeId} {agg : Bool} {d0 : Dat} (hT : TyI P T n agg) (hp0 : fr[t]? = some (dX (.pointer (some ⟨b, 0, none⟩)))) (hx : OpD fr x d) (hs : d.Shape n agg)
    (h : WL P ops Q rest (fr.set t (dP n agg d)) hp) : WL P ops Q ({ dst := none, op := .store T (.tmp t) x, type := ty, pos := ps, after := af, guard := none } :: rest) fr (hCell b T2 n agg d0 :: hp) :=
  WL.storeK hT (OpD.t hp0) hx hs (WL.freeze hp0 h)
end


open Go.RowKit

section
variable {P : Program} {ops : Array Oper} {hp : List HObj} {o : Oper} {fr : List Dat} {d : Dat} {Q : Post} {rest : List Oper}
variable {dst : Option Tmp} {ty : TypeId} {ps : String} {af : Array Edge} {g : Option (Nat × Bool)}
variable {t e : TypeId} {n bytes : Nat} {z : Value} {ag : Bool}

theorem WL.pushK {s x : Operand} {k : Tmp} {dst2 : Option Tmp} {ty2 : TypeId} {ps2 : String} {af2 : Array Edge} (E : ElT P t e n z bytes ag) {α : Type} {R : Rel α} {_gR : Good R} {v : Value} {xs : List α} {y : α} (hs : OpD fr s (dX v)) (hx : OpD fr x (dS R y)) (hsh : ∀ a, (dS R a).Shape n true) (hne : s ≠ .tmp k) (hkl : k < fr.length) (hn : 0 < n ∧ n ≤ 16777216) (hby : 0 < bytes)
    (hlen : (xs.length + 1) * bytes ≤ 140737488355328) (h : ∀ v', WL P ops Q rest (setD (fr.set k dA) dst2 (dX v')) (hRowK v' e n R (xs ++ [y]) :: hp)) :
    WL P ops Q ({ dst := some k, op := .buildSlice t 1 #[(0, x)], type := ty, pos := ps, after := af, guard := none } :: { dst := dst2, op := .call { callee := .builtin .append, args := #[s, .tmp k], argTypes := #[t, t] }, type := ty2, pos := ps2, after := af2, guard := none } :: rest) fr (hRowK v e n R xs :: hp) := by
  refine WL.of fun P0 B w0 w a hh hf => ?_
  have hxr := hx.ev hf
  obtain ⟨cs, k1, k0, k2, k3, k4⟩ := hsh y _ _ _ hxr
  simp only [if_true] at k4
  have hb := run_buildN (w := w) E (us := [a.eval x]) (css := [cs]) rfl (fun i u cs' hu hcs => by
    cases i with
    | zero => cases hu; cases hcs; exact ⟨k3, k1⟩
    | succ i => simp at hu) (by simp; omega)
  refine wpListIn_valueW rfl (v := .slice (some ⟨w.heap.size, 0, none⟩) 1 1) (w' := w.alloc (.cells [cs].flatten.toArray e)) ?_ ?_
  · unfold execOp
    simp only [List.map_toArray, List.map_cons, List.map_nil, Sem.run_bind]
    have : (Instr.buildSlice t 1 #[(0, a.eval x)]).run P w = .ok (.slice (some ⟨w.heap.size, 0, none⟩) 1 1) (w.alloc (.cells [cs].flatten.toArray e)) := hb
    simp only [this, Result.andThen_ok, Sem.run_pure]
  have hxe := Ext.of_alloc w (.cells [cs].flatten.toArray e)
  have hh1 := hh.ext hxe
  have hf1 : Fr (Imm P0 B (hRowK v e n R xs :: hp)) (w.alloc (.cells [cs].flatten.toArray e)) (a.put (some k) (.slice (some ⟨w.heap.size, 0, none⟩) 1 1)) (fr.set k dA) := Fr.put (x := some k) (hf.ext hxe) (d := dA) trivial
  have hm : xs.length + [y].length ≤ maxLen := by
    have : (xs.length + 1) * 1 ≤ (xs.length + 1) * bytes := Nat.mul_le_mul_left _ hby
    simp only [maxLen, List.length_cons, List.length_nil]; omega
  obtain ⟨v', w', hr, r1, r2, r3⟩ := appK_step (ty := ty2) E hh1 (ad := ⟨w.heap.size, 0, none⟩) (c := 1) (ys := [y]) (news := [cs]) rfl (fun j u hu => by
      rw [Addr.add_lit, cell_of_row _ _ _ _ _ _ (alloc_get w _), Nat.zero_add]
      simpa using hu) (fun u hu => by rw [List.mem_singleton.1 hu]; exact ⟨k1, k2⟩) (fun j h1 h2 => by
      have hj : j = 0 := by simp at h1; omega
      subst hj
      have := Good.ext (R := R) hxr hxe
      rw [k4] at this
      exact this) (by simpa using hlen) hm
  refine wp_append (v := v) (yv := .slice (some ⟨w.heap.size, 0, none⟩) 1 1) ?_ (eval_put_same (by rw [hf.size]; exact hkl)) hr ?_
  · rw [eval_put_ne hne]; exact hs.ev hf
  · exact (h v').on r1 (Fr.put (x := dst2) (hf1.mono fun d _ hd => Hp.written (o := hRowK v e n R xs) (o' := hRowK v' e n R (xs ++ [y])) r2 r3 hd) (d := dX v') rfl)
theorem WL.push1 {s x : Operand} {k : Tmp} {dst2 : Option Tmp} {ty2 : TypeId} {ps2 : String} {af2 : Array Edge} (E : ElT P t e 1 z bytes ag) {α : Type} {R : Rel α} {_gR : Good R} {v : Value} {xs : List α} {y : α} (hs : OpD fr s (dX v)) (hx : OpD fr x (dS R y)) (hsh : ∀ a, (dS R a).Shape 1 false) (hne : s ≠ .tmp k) (hkl : k < fr.length) (hby : 0 < bytes)
    (hlen : (xs.length + 1) * bytes ≤ 140737488355328) (h : ∀ v', WL P ops Q rest (setD (fr.set k dA) dst2 (dX v')) (hRow v' e R (xs ++ [y]) :: hp)) :
    WL P ops Q ({ dst := some k, op := .buildSlice t 1 #[(0, x)], type := ty, pos := ps, after := af, guard := none } :: { dst := dst2, op := .call { callee := .builtin .append, args := #[s, .tmp k], argTypes := #[t, t] }, type := ty2, pos := ps2, after := af2, guard := none } :: rest) fr (hRow v e R xs :: hp) := by
  refine WL.of fun P0 B w0 w a hh hf => ?_
  have hxr := hx.ev hf
  obtain ⟨cs, k1, k0, k2, k3, k4⟩ := hsh y _ _ _ hxr
  simp only [Bool.false_eq_true, if_false] at k4
  subst k4
  have hb := run_buildN (w := w) E (us := [a.eval x]) (css := [[a.eval x]]) rfl (fun i u cs' hu hcs => by
    cases i with
    | zero => cases hu; cases hcs; exact ⟨k3, k1⟩
    | succ i => simp at hu) (by simp)
  refine wpListIn_valueW rfl (v := .slice (some ⟨w.heap.size, 0, none⟩) 1 1) (w' := w.alloc (.cells [[a.eval x]].flatten.toArray e)) ?_ ?_
  · unfold execOp
    simp only [List.map_toArray, List.map_cons, List.map_nil, Sem.run_bind]
    have : (Instr.buildSlice t 1 #[(0, a.eval x)]).run P w = .ok (.slice (some ⟨w.heap.size, 0, none⟩) 1 1) (w.alloc (.cells [[a.eval x]].flatten.toArray e)) := hb
    simp only [this, Result.andThen_ok, Sem.run_pure]
  have hxe := Ext.of_alloc w (.cells [[a.eval x]].flatten.toArray e)
  have hh1 := hh.ext hxe
  have hf1 : Fr (Imm P0 B (hRow v e R xs :: hp)) (w.alloc (.cells [[a.eval x]].flatten.toArray e)) (a.put (some k) (.slice (some ⟨w.heap.size, 0, none⟩) 1 1)) (fr.set k dA) := Fr.put (x := some k) (hf.ext hxe) (d := dA) trivial
  have hm : xs.length + [y].length ≤ maxLen := by
    have : (xs.length + 1) * 1 ≤ (xs.length + 1) * bytes := Nat.mul_le_mul_left _ hby
    simp only [maxLen, List.length_cons, List.length_nil]; omega
  obtain ⟨v', w', hr, r1, r2, r3⟩ := app1_step (ty := ty2) E hh1 (ad := ⟨w.heap.size, 0, none⟩) (c := 1) (ys := [y]) (news := [a.eval x]) rfl (fun j u hu => by
      rw [Addr.add_lit, cell_of_row _ _ _ _ _ _ (alloc_get w _), Nat.zero_add]
      simpa using hu) k2 (fun j h1 h2 => by
      have hj : j = 0 := by simp at h1; omega
      subst hj
      exact Good.ext (R := R) hxr hxe) (by simpa using hlen) hm
  refine wp_append (v := v) (yv := .slice (some ⟨w.heap.size, 0, none⟩) 1 1) ?_ (eval_put_same (by rw [hf.size]; exact hkl)) hr ?_
  · rw [eval_put_ne hne]; exact hs.ev hf
  · exact (h v').on r1 (Fr.put (x := dst2) (hf1.mono fun d _ hd => Hp.written (o := hRow v e R xs) (o' := hRow v' e R (xs ++ [y])) r2 r3 hd) (d := dX v') rfl)

end


open Go.RowKit

section
variable {P : Program} {ops : Array Oper} {hp : List HObj} {md : Region.Mode} {w : World}

end



open Go.RowKit


open Go.RowKit

open Go.RowKit

open Go.RowKit


end Go.Proofs.Ytpiidgcljlalmaa.I
namespace Go.Proofs.Ytpiidgcljlalmaa
open Go.RowKit
theorem shape_Agg {ds : List Dat} {n : Nat} (hn : 0 < n) (hl : ds.length = n) : (dAgg ds).Shape n true := fun _ _ _ h => by
  obtain ⟨cs, rfl, h2, h3, _⟩ := h
  exact ⟨cs, by omega, by omega, h3, rfl, rfl⟩
end Go.Proofs.Ytpiidgcljlalmaa
namespace Go.Proofs.Ytpiidgcljlalmaa
open Go.RowKit
section
variable {P : Program} {ops : Array Oper} {hp : List HObj} {fr : List Dat} {Q : Post} {rest : List Oper} {c : Code} {d : Dat} {α : Type} {R : Rel α} {e : TypeId}
theorem WC.freeze {_gR : Good R} {v : Value} {xs : List α} (h : WC P Q c fr (hKnow v (dS (Arr R) xs) :: hp)) : WC P Q c fr (hRow v e R xs :: hp) := WC.of fun P0 B w0 w a hh hf => by
  have hg : (hKnow v (dS (Arr R) xs)).blk = none := rfl
  have hd : (dS (Arr R) xs).rd (Imm P0 B hp) w v := Own.keep hh
  exact h.on (Hp.ghost (l := []) hg hh.drop hd) (hf.mono fun d u hd => d.weak hd fun k hk => (imm_ghost hg [] k).2 (Imm.sub k hk))
end
end Go.Proofs.Ytpiidgcljlalmaa
namespace Go.Proofs.Ytpiidgcljlalmaa
open Go.RowKit

def sameI : List Int → List Int → Bool
  | [], [] => true
  | x :: a, y :: b => if x ≠ y then false else sameI a b
  | _, _ => false
def sameAllI : List (List Int) → List (List Int) → Bool
  | [], [] => true
  | x :: a, y :: b => if sameI x y = true then sameAllI a b else false
  | _, _ => false
theorem sameI_step {a b : List Int} {k : Nat} (h : k < a.length) (h' : k < b.length) : sameI (a.drop k) (b.drop k) = if a[k] ≠ b[k] then false else sameI (a.drop (k + 1)) (b.drop (k + 1)) := by
  rw [List.drop_eq_getElem_cons h, List.drop_eq_getElem_cons h', sameI]
theorem sameI_len : ∀ {a b : List Int}, a.length ≠ b.length → sameI a b = false
  | [], [], h => absurd rfl h
  | [], y :: b, _ => rfl
  | x :: a, [], _ => rfl
  | x :: a, y :: b, h => by
    simp only [sameI]
    split
    · rfl
    · exact sameI_len (by simpa using h)
theorem sameAllI_step {a b : List (List Int)} {k : Nat} (h : k < a.length) (h' : k < b.length) : sameAllI (a.drop k) (b.drop k) = if sameI a[k] b[k] = true then sameAllI (a.drop (k + 1)) (b.drop (k + 1)) else false := by
  rw [List.drop_eq_getElem_cons h, List.drop_eq_getElem_cons h', sameAllI]
theorem sameAllI_len : ∀ {a b : List (List Int)}, a.length ≠ b.length → sameAllI a b = false
  | [], [], h => absurd rfl h
  | [], y :: b, _ => rfl
  | x :: a, [], _ => rfl
  | x :: a, y :: b, h => by
    simp only [sameAllI]
    split
    · exact sameAllI_len (by simpa using h)
    · rfl
end Go.Proofs.Ytpiidgcljlalmaa
namespace Go.Proofs.Ytpiidgcljlalmaa
open Go.RowKit
def modF : Nat → List (List Int) → List Int → List (List Int)
  | 0, l, a => if emptyC l = true then [] else [a]
  | n + 1, l, a => if emptyC l = true then [] else modF n (asgI l ((a.length : Int) + 1)) (a ++ [(a.length : Int) + 1]) ++ modF n (asgI l (-((a.length : Int) + 1))) (a ++ [-((a.length : Int) + 1)])
theorem mod_all {l : List (List Int)} {V : Nat} (hl : ∀ c ∈ l, ∀ x ∈ c, x ≠ 0 ∧ x.natAbs ≤ V) : ∀ (n : Nat) (a : List Int), PosL a → a.length + n = V → modF n (redI l a) a = allF n l a
  | 0, a, hp, hV => by
    unfold modF allF
    by_cases he : emptyC (redI l a) = true
    · obtain ⟨c, c1, c2, _⟩ := empty_red.1 he
      rw [if_pos he, if_neg]
      intro q
      rw [List.all_eq_true.1 q c c1] at c2
      cases c2
    · rw [if_neg he, if_pos (all_full hl hp (by omega) (by simpa using he))]
  | n + 1, a, hp, hV => by
    unfold modF
    by_cases he : emptyC (redI l a) = true
    · obtain ⟨c, c1, _, c3⟩ := empty_red.1 he
      rw [if_pos he, all_wrong (n + 1) a hp ⟨c, c1, c3⟩]
    · rw [if_neg he, ← red_snoc l (hp.new (.inl rfl)).2, ← red_snoc l (hp.new (.inr rfl)).2, mod_all hl n _ (hp.snoc (.inl rfl)) (by rw [List.length_append, List.length_singleton]; omega), mod_all hl n _ (hp.snoc (.inr rfl)) (by rw [List.length_append, List.length_singleton]; omega)]
      rfl
theorem models_same {l : List (List Int)} {V : Nat} (hl : ∀ c ∈ l, ∀ x ∈ c, x ≠ 0 ∧ x.natAbs ≤ V) : modF V l [] = allF V l [] := by
  have := mod_all hl V [] (fun i x e => by simp at e) (by simp)
  rwa [red_nil] at this
end Go.Proofs.Ytpiidgcljlalmaa
namespace Go.Proofs.Ytpiidgcljlalmaa
open Go.RowKit
theorem cho_up (l : List (List Int)) : chosenI l (upI l.length) = l := by
  unfold chosenI upI
  apply List.ext_getElem
  · simp
  · intro i h1 h2
    simp [List.getD_eq_getElem?_getD, h2]
def core43 (V : Nat) (l : List (List Int)) : List Int := prune (fun ks => unsB V (chosenI l ks)) l.length (upI l.length)
end Go.Proofs.Ytpiidgcljlalmaa
namespace Go.Proofs.Ytpiidgcljlalmaa
open Go.RowKit

set_option maxHeartbeats 400000 in
theorem same_c {P P' : Nat → Prop} {u v : Value} {a b : List Int} (w : World) (hu : Ints P w u a) (hv : Ints P' w v b) :
    Calls Try.prog 59 #[u, v] w fun e w' => e = .returned (.bool (sameI a b)) ∧ ∃ n, w' = w.drewN n := by
  have hle := hu.le
  have hle' := hv.le
  by_cases hl : a.length = b.length
  · have Hl := Lib.hid hl
    have hb : ((a.length : Int) != (b.length : Int)) = false := by rw [hl]; simp
    clear hl
    go_enter Try.func59, Try.ntmps59
    go_wp2_with (first | ((with_reducible refine w_len elI.und ?_ ?_ hu.len ?_); (· rfl); (· rfl); simp only [Act.put, List.setIfInBounds_toArray, List.set_cons_succ, List.set_cons_zero]) | ((with_reducible refine w_len elI.und ?_ ?_ hv.len ?_); (· rfl); (· rfl); simp only [Act.put, List.setIfInBounds_toArray, List.set_cons_succ, List.set_cons_zero]))
    go_loopw [5] (fun i wr => ∃ k m : Nat, k ≤ a.length ∧ i = .int .i64 k ∧ Hid (sameI (a.drop k) (b.drop k) = sameI a b) ∧ wr = w.drewN m) (fun i _ => a.length - (intOf i).toNat)
    case atStart => exact ⟨0, 0, Nat.zero_le _, rfl, rfl, rfl⟩
    case round =>
      obtain ⟨k, m, hk, rfl, hn, rfl⟩ := hrel
      have hu' := hu.ext (Ext.of_drewN w m)
      have hv' := hv.ext (Ext.of_drewN w m)
      by_cases hlt : k < a.length
      · have hlt' : k < b.length := by rw [← Hl.out]; exact hlt
        have hst := Lib.hid (sameI_step hlt hlt')
        go_wp2_with (first | ((with_reducible refine w_len elI.und ?_ ?_ hu'.len ?_); (· rfl); (· rfl); simp only [Act.put, List.setIfInBounds_toArray, List.set_cons_succ, List.set_cons_zero]))
        (refine wp_region_quiet_lit (by kernel_rfl) (by kernel_rfl) ?_; (repeat (first | go_big_quiet_skip |  ((with_reducible refine q_ixI elI ?_ ?_ ?_ ?_ hu' hlt ext_of_class ?_ ?_); (· rfl); (· exact fun _ => rfl); (· rfl); (· rfl); (· exact fun _ => rfl); intro _; simp only [Act.put, List.setIfInBounds_toArray, List.set_cons_succ, List.set_cons_zero]) | ((with_reducible refine q_ixI elI ?_ ?_ ?_ ?_ hv' hlt' ext_of_class ?_ ?_); (· rfl); (· exact fun _ => rfl); (· rfl); (· rfl); (· exact fun _ => rfl); intro _; simp only [Act.put, List.setIfInBounds_toArray, List.set_cons_succ, List.set_cons_zero])  | go_big_quiet_step (fail))); refine wpQuiet_nil ?_; rintro _ ⟨nq, rfl⟩)
        by_cases hz : a[k] = b[k]
        · have hz' : (a[k] != b[k]) = false := by simp [hz]
          have Hz := Lib.hid hz
          clear hz
          go_wp2
          go_roundw
          case rel => exact ⟨k + 1, m + nq, hlt, by go_num, by rw [← hn.out, hst.out, if_neg (by simp [Hz.out])]; rfl, rfl⟩
          case measure => simp [intOf]; omega
        · have hz' : (a[k] != b[k]) = true := by simp [hz]
          go_wp2
          go_ret
          exact ⟨ret_b (by rw [← hn.out, hst.out, if_pos hz]), m + nq, World.drewN_drewN ..⟩
      · obtain rfl : k = a.length := by omega
        go_wp2_with (first | ((with_reducible refine w_len elI.und ?_ ?_ hu'.len ?_); (· rfl); (· rfl); simp only [Act.put, List.setIfInBounds_toArray, List.set_cons_succ, List.set_cons_zero]))
        go_ret
        exact ⟨ret_b (by rw [← hn.out, List.drop_length, Hl.out, List.drop_length, sameI]), m, rfl⟩
  · have hb : ((a.length : Int) != (b.length : Int)) = true := by simp; omega
    have hf := Lib.hid (sameI_len hl)
    go_enter Try.func59, Try.ntmps59
    go_wp2_with (first | ((with_reducible refine w_len elI.und ?_ ?_ hu.len ?_); (· rfl); (· rfl); simp only [Act.put, List.setIfInBounds_toArray, List.set_cons_succ, List.set_cons_zero]) | ((with_reducible refine w_len elI.und ?_ ?_ hv.len ?_); (· rfl); (· rfl); simp only [Act.put, List.setIfInBounds_toArray, List.set_cons_succ, List.set_cons_zero]))
    go_ret
    exact ⟨ret_b (by rw [hf.out]), 0, rfl⟩

set_option maxHeartbeats 400000 in
theorem sameAll_c {P P' : Nat → Prop} {u v : Value} {a b : List (List Int)} (w : World) (hu : Rows P w u a) (hv : Rows P' w v b) :
    Calls Try.prog 25 #[u, v] w fun e w' => e = .returned (.bool (sameAllI a b)) ∧ ∃ n, w' = w.drewN n := by
  have hle := hu.le
  have hle' := hv.le
  by_cases hl : a.length = b.length
  · have Hl := Lib.hid hl
    have hb : ((a.length : Int) != (b.length : Int)) = false := by rw [hl]; simp
    clear hl
    go_enter Try.func25, Try.ntmps25
    go_wp2_with (first | ((with_reducible refine w_len elR.und ?_ ?_ hu.len ?_); (· rfl); (· rfl); simp only [Act.put, List.setIfInBounds_toArray, List.set_cons_succ, List.set_cons_zero]) | ((with_reducible refine w_len elR.und ?_ ?_ hv.len ?_); (· rfl); (· rfl); simp only [Act.put, List.setIfInBounds_toArray, List.set_cons_succ, List.set_cons_zero]))
    go_loopw [5] (fun i wr => ∃ k m : Nat, k ≤ a.length ∧ i = .int .i64 k ∧ Hid (sameAllI (a.drop k) (b.drop k) = sameAllI a b) ∧ wr = w.drewN m) (fun i _ => a.length - (intOf i).toNat)
    case atStart => exact ⟨0, 0, Nat.zero_le _, rfl, rfl, rfl⟩
    case round =>
      obtain ⟨k, m, hk, rfl, hn, rfl⟩ := hrel
      have hu' := hu.ext (Ext.of_drewN w m)
      have hv' := hv.ext (Ext.of_drewN w m)
      by_cases hlt : k < a.length
      · have hlt' : k < b.length := by rw [← Hl.out]; exact hlt
        have hst := Lib.hid (sameAllI_step hlt hlt')
        go_wp2_with (first | ((with_reducible refine w_len elR.und ?_ ?_ hu'.len ?_); (· rfl); (· rfl); simp only [Act.put, List.setIfInBounds_toArray, List.set_cons_succ, List.set_cons_zero]))
        (refine wp_region_quiet_lit (by kernel_rfl) (by kernel_rfl) ?_; (repeat (first | go_big_quiet_skip |  ((with_reducible refine q_ix elR ?_ ?_ ?_ ?_ hu' hlt ext_of_class ?_ ?_); (· rfl); (· exact fun _ => rfl); (· rfl); (· rfl); (· exact fun _ => rfl); intro _ c hc h1c; simp only [Act.put, List.setIfInBounds_toArray, List.set_cons_succ, List.set_cons_zero]) | ((with_reducible refine q_ix elR ?_ ?_ ?_ ?_ hv' hlt' ext_of_class ?_ ?_); (· rfl); (· exact fun _ => rfl); (· rfl); (· rfl); (· exact fun _ => rfl); intro _ d hd h1d; simp only [Act.put, List.setIfInBounds_toArray, List.set_cons_succ, List.set_cons_zero]) | ((with_reducible refine q_call Try.call59 ?_ ?_ (fun w hw => class_call hw (same_c _ (Good.ext (R := Ints) hc (ext_of_class _ hw)) (Good.ext (R := Ints) hd (ext_of_class _ hw)))) ?_); (· rfl); (· rfl); simp only [Act.put, List.setIfInBounds_toArray, List.set_cons_succ, List.set_cons_zero])  | go_big_quiet_step (fail))); refine wpQuiet_nil ?_; rintro _ ⟨nq, rfl⟩)
        cases hz : sameI a[k] b[k]
        · go_wp2
          go_ret
          exact ⟨ret_b (by rw [← hn.out, hst.out, if_neg (by simp [hz])]), m + nq, World.drewN_drewN ..⟩
        · go_wp2
          go_roundw
          case rel => exact ⟨k + 1, m + nq, hlt, by go_num, by rw [← hn.out, hst.out, if_pos hz]; rfl, rfl⟩
          case measure => simp [intOf]; omega
      · obtain rfl : k = a.length := by omega
        go_wp2_with (first | ((with_reducible refine w_len elR.und ?_ ?_ hu'.len ?_); (· rfl); (· rfl); simp only [Act.put, List.setIfInBounds_toArray, List.set_cons_succ, List.set_cons_zero]))
        go_ret
        exact ⟨ret_b (by rw [← hn.out, List.drop_length, Hl.out, List.drop_length, sameAllI]), m, rfl⟩
  · have hb : ((a.length : Int) != (b.length : Int)) = true := by simp; omega
    have hf := Lib.hid (sameAllI_len hl)
    go_enter Try.func25, Try.ntmps25
    go_wp2_with (first | ((with_reducible refine w_len elR.und ?_ ?_ hu.len ?_); (· rfl); (· rfl); simp only [Act.put, List.setIfInBounds_toArray, List.set_cons_succ, List.set_cons_zero]) | ((with_reducible refine w_len elR.und ?_ ?_ hv.len ?_); (· rfl); (· rfl); simp only [Act.put, List.setIfInBounds_toArray, List.set_cons_succ, List.set_cons_zero]))
    go_ret
    exact ⟨ret_b (by rw [hf.out]), 0, rfl⟩

end Go.Proofs.Ytpiidgcljlalmaa
namespace Go.Proofs.Ytpiidgcljlalmaa
open Go.RowKit
set_option maxRecDepth 100000
theorem sameAll43_p (a b : List (List Int)) : Fn Try.prog 25 [dS Rows a, dS Rows b] (dB (sameAllI a b)) := Fn.old2 fun I w u v hu hv => by
  refine (sameAll_c w hu hv).mono ?_
  rintro e w' ⟨rfl, n, rfl⟩
  exact ⟨_, rfl, (Ext.refl _).drewN n, rfl⟩
theorem implied43_p (V : Int) (l : List (List Int)) (c : List Int) (hr : IRR l) : Fn Try.prog 49 [dS Cls (V, l), dS Ints c] (dT [dB (impliedI V l c).1, dI (impliedI V l c).2]) := Fn.old2 fun I w u v hu hv => by
  obtain ⟨u', rfl, h⟩ := cls_is hu
  refine (pimplied_c V w h hv hr).mono ?_
  rintro e w' ⟨rfl, hx⟩
  rw [pimpliedI_eq]
  exact ⟨_, rfl, hx, dT2_rd rfl rfl⟩
end Go.Proofs.Ytpiidgcljlalmaa
