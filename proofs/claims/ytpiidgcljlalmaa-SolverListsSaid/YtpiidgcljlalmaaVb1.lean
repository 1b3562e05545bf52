/- Part 1: walks by contracts, and plain laws. -/
import Derived.Test.YtpiidgcljlalmaaVa23
set_option linter.unusedVariables false
set_option linter.unusedSimpArgs false
set_option linter.unusedSectionVars false
namespace Go.Proofs.Ytpiidgcljlalmaa
open Go.RowKit

section
variable {P : Program} {ops : Array Oper} {hp : List HObj} {o : Oper} {fr : List Dat} {d : Dat} {Q : Post} {rest : List Oper}
variable {dst : Option Tmp} {ty : TypeId} {ps : String} {af : Array Edge} {g : Option (Nat × Bool)}

section
variable {x y : Operand} {T T2 : TypeId} {p q : Int} (hx : OpD fr x (dI p)) (hy : OpD fr y (dI q))
include hx hy
theorem SY.mul (h : -9223372036854775808 ≤ p * q ∧ p * q ≤ 9223372036854775807) : SY P ops hp { dst := dst, op := .binOp .mul T x y T2, type := ty, pos := ps, after := af, guard := g } fr (dI (p * q)) := SY.bin hx hy (fun w => by simp [Go.binOp, Op.intArith, wrap_in h]) fun _ _ => rfl
end
theorem bare_I {n : Int} : (dI n).Bare := fun _ _ _ _ _ h => h

end

end Go.Proofs.Ytpiidgcljlalmaa
namespace Go.Proofs.Ytpiidgcljlalmaa
open Go.RowKit

section
variable {P : Program} {ops : Array Oper} {hp : List HObj} {o : Oper} {fr : List Dat} {d : Dat} {Q : Post} {rest : List Oper}
variable {dst : Option Tmp} {ty : TypeId} {ps : String} {af : Array Edge} {g : Option (Nat × Bool)}

theorem WL.freeze {t b n : Nat} {T : TypeId} {agg : Bool} (hp0 : fr[t]? = some (dX (.pointer (some ⟨b, 0, none⟩)))) (h : WL P ops Q rest (fr.set t (dP n agg d)) hp) : WL P ops Q rest fr (hCell b T n agg d :: hp) := by
  refine WL.of fun P0 B w0 w a hh hf => ?_
  obtain ⟨cs, u, c1, c2, c0, c3, c4, c5⟩ := hh.ok (hCell b T n agg d) (by simp)
  have hown := hh.own (hCell b T n agg d) (by simp) b rfl
  refine h.on hh.drop ⟨hf.defers, by rw [hf.size, List.length_set], fun t' d' hd' => ?_⟩
  by_cases htt : t = t'
  · subst htt
    rw [List.getElem?_set] at hd'
    simp only [if_true] at hd'
    split at hd'
    · cases hd'
      have hv : a.tmps.getD t undef = .pointer (some ⟨b, 0, none⟩) := hf.rd t _ hp0
      rw [hv]
      refine ⟨b, 0, u, rfl, cells_of_obj c1 c2 c0 c3 c4 ⟨.inr hown.1, fun o' ho' hk => ?_⟩, d.weak c5 Imm.sub⟩
      exact (List.pairwise_cons.1 hh.apart).1 o' ho' b rfl hk
    · cases hd'
  · rw [List.getElem?_set_ne htt] at hd'
    exact d'.weak (hf.rd t' d' hd') Imm.sub
theorem WL.storeF {x : Operand} {t b n : Nat} {T T2 : TypeId} {agg : Bool} {d0 : Dat} (hT : TyI P T n agg) (hp0 : fr[t]? = some (dX (.pointer (some ⟨b, 0, none⟩)))) (hx : OpD fr x d) (hs : d.Shape n agg)
    (h : WL P ops Q rest (fr.set t (dP n agg d)) hp) : WL P ops Q ({ dst := none, op := .store T (.tmp t) x, type := ty, pos := ps, after := af, guard := none } :: rest) fr (hCell b T2 n agg d0 :: hp) :=
  WL.storeK hT (OpD.t hp0) hx hs (WL.freeze hp0 h)
end

end Go.Proofs.Ytpiidgcljlalmaa
namespace Go.Proofs.Ytpiidgcljlalmaa
open Go.RowKit

section
variable {P : Program} {ops : Array Oper} {hp : List HObj} {o : Oper} {fr : List Dat} {d : Dat} {Q : Post} {rest : List Oper}
variable {dst : Option Tmp} {ty : TypeId} {ps : String} {af : Array Edge} {g : Option (Nat × Bool)}
variable {t e : TypeId} {n bytes : Nat} {z : Value} {ag : Bool}

theorem eval_put_ne {a : Act} {k : Tmp} {u : Value} {x : Operand} (h : x ≠ .tmp k) : (a.put (some k) u).eval x = a.eval x := by
  cases x with
  | tmp t =>
    have : k ≠ t := fun e => h (by rw [e])
    simp [Act.eval, Act.put, Array.getD_eq_getD_getElem?, this]
  | _ => rfl
theorem eval_put_same {a : Act} {k : Tmp} {u : Value} (h : k < a.tmps.size) : (a.put (some k) u).eval (.tmp k) = u := by
  simp [Act.eval, Act.put, Array.getD_eq_getD_getElem?, h]
theorem WL.pushK {s x : Operand} {k : Tmp} {dst2 : Option Tmp} {ty2 : TypeId} {ps2 : String} {af2 : Array Edge} (E : ElT P t e n z bytes ag) {α : Type} {R : Rel α} {_gR : Good R} {v : Value} {xs : List α} {y : α} (hs : OpD fr s (dX v)) (hx : OpD fr x (dS R y)) (hsh : ∀ a, (dS R a).Shape n true) (hne : s ≠ .tmp k) (hkl : k < fr.length) (hn : 0 < n ∧ n ≤ 16777216) (hby : 0 < bytes)
    (hlen : (xs.length + 1) * bytes ≤ 140737488355328) (h : ∀ v', WL P ops Q rest (setD (fr.set k dA) dst2 (dX v')) (hRowK v' e n R (xs ++ [y]) :: hp)) :
    WL P ops Q ({ dst := some k, op := .buildSlice t 1 #[(0, x)], type := ty, pos := ps, after := af, guard := none } :: { dst := dst2, op := .call { callee := .builtin .append, args := #[s, .tmp k], argTypes := #[t, t] }, type := ty2, pos := ps2, after := af2, guard := none } :: rest) fr (hRowK v e n R xs :: hp) := by
  refine WL.of fun P0 B w0 w a hh hf => ?_
  have hxr := hx.ev hf
  obtain ⟨cs, k1, k0, k2, k3, k4⟩ := hsh y _ _ _ hxr
  simp only [if_true] at k4
  have hb := run_buildN (w := w) E (us := [a.eval x]) (css := [cs]) rfl (fun i u cs' hu hcs => by
    cases i with
    | zero => cases hu; cases hcs; exact ⟨k3, k1⟩
    | succ i => simp at hu) (by simp; omega)
  refine wpList_value rfl (v := .slice (some ⟨w.heap.size, 0, none⟩) 1 1) (w' := w.alloc (.cells [cs].flatten.toArray e)) ?_ ?_
  · unfold execOp
    simp only [List.map_toArray, List.map_cons, List.map_nil, Sem.run_bind]
    have : (Instr.buildSlice t 1 #[(0, a.eval x)]).run P w = .ok (.slice (some ⟨w.heap.size, 0, none⟩) 1 1) (w.alloc (.cells [cs].flatten.toArray e)) := hb
    simp only [this, Result.andThen_ok, Sem.run_pure]
  have hxe := Ext.of_alloc w (.cells [cs].flatten.toArray e)
  have hh1 := hh.ext hxe
  have hf1 : Fr (Imm P0 B (hRowK v e n R xs :: hp)) (w.alloc (.cells [cs].flatten.toArray e)) (a.put (some k) (.slice (some ⟨w.heap.size, 0, none⟩) 1 1)) (fr.set k dA) := Fr.put (x := some k) (hf.ext hxe) (d := dA) trivial
  have hm : xs.length + [y].length ≤ maxLen := by
    have : (xs.length + 1) * 1 ≤ (xs.length + 1) * bytes := Nat.mul_le_mul_left _ hby
    simp only [maxLen, List.length_cons, List.length_nil]; omega
  obtain ⟨v', w', hr, r1, r2, r3⟩ := appK_step (ty := ty2) E hh1 (ad := ⟨w.heap.size, 0, none⟩) (c := 1) (ys := [y]) (news := [cs]) rfl (fun j u hu => by
      rw [Addr.add_lit, cell_of_row _ _ _ _ _ _ (alloc_get w _), Nat.zero_add]
      simpa using hu) (fun u hu => by rw [List.mem_singleton.1 hu]; exact ⟨k1, k2⟩) (fun j h1 h2 => by
      have hj : j = 0 := by simp at h1; omega
      subst hj
      have := Good.ext (R := R) hxr hxe
      rw [k4] at this
      exact this) (by simpa using hlen) hm
  refine wp_append (v := v) (yv := .slice (some ⟨w.heap.size, 0, none⟩) 1 1) ?_ (eval_put_same (by rw [hf.size]; exact hkl)) hr ?_
  · rw [eval_put_ne hne]; exact hs.ev hf
  · exact (h v').on r1 (Fr.put (x := dst2) (hf1.mono fun d _ hd => Hp.written (o := hRowK v e n R xs) (o' := hRowK v' e n R (xs ++ [y])) r2 r3 hd) (d := dX v') rfl)
theorem WL.push1 {s x : Operand} {k : Tmp} {dst2 : Option Tmp} {ty2 : TypeId} {ps2 : String} {af2 : Array Edge} (E : ElT P t e 1 z bytes ag) {α : Type} {R : Rel α} {_gR : Good R} {v : Value} {xs : List α} {y : α} (hs : OpD fr s (dX v)) (hx : OpD fr x (dS R y)) (hsh : ∀ a, (dS R a).Shape 1 false) (hne : s ≠ .tmp k) (hkl : k < fr.length) (hby : 0 < bytes)
    (hlen : (xs.length + 1) * bytes ≤ 140737488355328) (h : ∀ v', WL P ops Q rest (setD (fr.set k dA) dst2 (dX v')) (hRow v' e R (xs ++ [y]) :: hp)) :
    WL P ops Q ({ dst := some k, op := .buildSlice t 1 #[(0, x)], type := ty, pos := ps, after := af, guard := none } :: { dst := dst2, op := .call { callee := .builtin .append, args := #[s, .tmp k], argTypes := #[t, t] }, type := ty2, pos := ps2, after := af2, guard := none } :: rest) fr (hRow v e R xs :: hp) := by
  refine WL.of fun P0 B w0 w a hh hf => ?_
  have hxr := hx.ev hf
  obtain ⟨cs, k1, k0, k2, k3, k4⟩ := hsh y _ _ _ hxr
  simp only [Bool.false_eq_true, if_false] at k4
  subst k4
  have hb := run_buildN (w := w) E (us := [a.eval x]) (css := [[a.eval x]]) rfl (fun i u cs' hu hcs => by
    cases i with
    | zero => cases hu; cases hcs; exact ⟨k3, k1⟩
    | succ i => simp at hu) (by simp)
  refine wpList_value rfl (v := .slice (some ⟨w.heap.size, 0, none⟩) 1 1) (w' := w.alloc (.cells [[a.eval x]].flatten.toArray e)) ?_ ?_
  · unfold execOp
    simp only [List.map_toArray, List.map_cons, List.map_nil, Sem.run_bind]
    have : (Instr.buildSlice t 1 #[(0, a.eval x)]).run P w = .ok (.slice (some ⟨w.heap.size, 0, none⟩) 1 1) (w.alloc (.cells [[a.eval x]].flatten.toArray e)) := hb
    simp only [this, Result.andThen_ok, Sem.run_pure]
  have hxe := Ext.of_alloc w (.cells [[a.eval x]].flatten.toArray e)
  have hh1 := hh.ext hxe
  have hf1 : Fr (Imm P0 B (hRow v e R xs :: hp)) (w.alloc (.cells [[a.eval x]].flatten.toArray e)) (a.put (some k) (.slice (some ⟨w.heap.size, 0, none⟩) 1 1)) (fr.set k dA) := Fr.put (x := some k) (hf.ext hxe) (d := dA) trivial
  have hm : xs.length + [y].length ≤ maxLen := by
    have : (xs.length + 1) * 1 ≤ (xs.length + 1) * bytes := Nat.mul_le_mul_left _ hby
    simp only [maxLen, List.length_cons, List.length_nil]; omega
  obtain ⟨v', w', hr, r1, r2, r3⟩ := app1_step (ty := ty2) E hh1 (ad := ⟨w.heap.size, 0, none⟩) (c := 1) (ys := [y]) (news := [a.eval x]) rfl (fun j u hu => by
      rw [Addr.add_lit, cell_of_row _ _ _ _ _ _ (alloc_get w _), Nat.zero_add]
      simpa using hu) k2 (fun j h1 h2 => by
      have hj : j = 0 := by simp at h1; omega
      subst hj
      exact Good.ext (R := R) hxr hxe) (by simpa using hlen) hm
  refine wp_append (v := v) (yv := .slice (some ⟨w.heap.size, 0, none⟩) 1 1) ?_ (eval_put_same (by rw [hf.size]; exact hkl)) hr ?_
  · rw [eval_put_ne hne]; exact hs.ev hf
  · exact (h v').on r1 (Fr.put (x := dst2) (hf1.mono fun d _ hd => Hp.written (o := hRow v e R xs) (o' := hRow v' e R (xs ++ [y])) r2 r3 hd) (d := dX v') rfl)

def ishr (x : Int) (y : Int) : Int := x.fdiv (2 ^ min y.toNat 64)
section
variable {x y : Operand} {T T2 : TypeId} {p q : Int} (hx : OpD fr x (dI p)) (hy : OpD fr y (dI q))
include hx hy
theorem SY.shr (h : 0 ≤ q) : SY P ops hp { dst := dst, op := .binOp .shr T x y T2, type := ty, pos := ps, after := af, guard := g } fr (dI (ishr p q)) := SY.bin hx hy (fun w => by
  have : ¬ q < 0 := by omega
  simp [Go.binOp, Op.shift, this]; rfl) fun _ _ => rfl
end
end

end Go.Proofs.Ytpiidgcljlalmaa
namespace Go.Proofs.Ytpiidgcljlalmaa
open Go.RowKit

section
variable {P : Program} {ops : Array Oper} {hp : List HObj} {md : Region.Mode} {w : World}

end

section
variable {P : Program} {ops : Array Oper} {hp : List HObj} {o : Oper} {fr : List Dat} {d : Dat} {Q : Post} {rest : List Oper}
variable {dst : Option Tmp} {ty : TypeId} {ps : String} {af : Array Edge} {g : Option (Nat × Bool)}
variable {t e : TypeId} {n bytes : Nat} {z : Value} {ag : Bool}
theorem FinD.nilE {α : Type} {R : Rel α} [Good R] {ys : List α} (he : ys = []) : FinD hp (dX (.slice none 0 0)) (dS (Arr R) ys) := by subst he; exact FinD.le Dat.le_nil
theorem SY.eqlB {x y : Operand} {T T2 : TypeId} {p q : Bool} (hx : OpD fr x (dB p)) (hy : OpD fr y (dB q)) (hq : ∀ (x y : Operand) (p q : Bool) w, (do eqGuard .eql T x y (.bool p) (.bool q); Go.binOp .eql T (.bool p) (.bool q)).run P w = .ok (.bool (p == q)) w) : SY P ops hp { dst := dst, op := .binOp .eql T x y T2, type := ty, pos := ps, after := af, guard := g } fr (dB (p == q)) := SY.val fun {I w a} ho => by
  have h1 : a.eval x = .bool p := hx.get (by simp [Op.operands]) ho
  have h2 : a.eval y = .bool q := hy.get (by simp [Op.operands]) ho
  refine ⟨.bool (p == q), ?_, rfl⟩
  have := hq x y p q w
  unfold execOp
  simp only [h1, h2]
  rw [Sem.run_bind, this]
  simp
end

end Go.Proofs.Ytpiidgcljlalmaa
namespace Go.Proofs.Ytpiidgcljlalmaa
open Go.RowKit
section
variable {P : Program} {ops : Array Oper} {hp : List HObj} {o : Oper} {fr : List Dat} {d : Dat} {dst : Option Tmp} {ty : TypeId} {ps : String} {af : Array Edge} {g : Option (Nat × Bool)}
theorem SY.makeFun {f : FuncId} {caps : Array Operand} {cs : List Dat} {α : Type} {A : α → List Dat} {r : α → Dat} (he : Enters P f) (h : ∀ x, Fn P f (A x ++ cs) (r x)) (hr : ∀ x, (r x).Bare) (ha : ArgsD fr caps.toList cs) :
    SY P ops hp { dst := dst, op := .makeFunc (.func f) #[] caps, type := ty, pos := ps, after := af, guard := g } fr (dFun P A r) := SY.val fun {I w a} ho => by
  refine ⟨.func (.func f) #[] (caps.map a.eval), by unfold execOp; simp [Instr.makeFunc], f, _, rfl, he, fun w' hw' x I' vs hl hv => ?_⟩
  have hcap : ∀ (i : Nat) (d : Dat), cs[i]? = some d → d.rd I w' ((caps.toList.map a.eval).getD i undef) := fun i d hd => by
    have hi : i < caps.toList.length := by rw [ha.1]; exact (List.getElem?_eq_some_iff.1 hd).1
    have h2 := ha.2 i _ d (List.getElem?_eq_getElem hi) hd
    have := h2.get (by simp only [Op.operands]; simp) ho
    have hi' : i < caps.size := by simpa using hi
    have := d.move this hw'
    simpa [List.getD, hi'] using this
  have := (h x).out (fun b => I' b ∨ I b) w' (vs ++ caps.toList.map a.eval) (by have := ha.1; simp at this; simp [hl, this]) fun i d hd => by
    by_cases hi : i < (A x).length
    · rw [List.getElem?_append_left hi] at hd
      have := hv i d hd
      have hi2 : i < vs.length := by omega
      rw [List.getD_eq_getElem?_getD, List.getElem?_append_left hi2, ← List.getD_eq_getElem?_getD]
      exact d.weak this fun _ => .inl
    · rw [List.getElem?_append_right (by omega)] at hd
      have := hcap _ d hd
      rw [List.getD_eq_getElem?_getD, List.getElem?_append_right (by omega), ← List.getD_eq_getElem?_getD, hl]
      exact d.weak this fun _ => .inr
  have he : (vs ++ caps.toList.map a.eval).toArray = vs.toArray ++ caps.map a.eval := by apply Array.ext'; simp
  rw [he] at this
  exact this.mono fun e w'' ⟨u, h1, h2, h3⟩ => ⟨u, h1, h2, hr x _ _ _ _ _ h3⟩
end
end Go.Proofs.Ytpiidgcljlalmaa
namespace Go.Proofs.Ytpiidgcljlalmaa.I
open Go.RowKit
open Go.RowKit





open Go.RowKit

section
variable {P : Program} {ops : Array Oper} {hp : List HObj} {o : Oper} {fr : List Dat} {d : Dat} {Q : Post} {rest : List Oper}
variable {dst : Option Tmp} {ty : TypeId} {ps : String} {af : Array Edge} {g : Option (Nat × Bool)}


end


open Go.RowKit

section
variable {P : Program} {ops : Array Oper} {hp : List HObj} {o : Oper} {fr : List Dat} {d : Dat} {Q : Post} {rest : List Oper}
variable {dst : Option Tmp} {ty : TypeId} {ps : String} {af : Array Edge} {g : Option (Nat × Bool)}

theorem WL.freeze {t b n : Nat} {T : TypeId} {agg : Bool} (hp0 : fr[t]? = some (dX (.pointer (some ⟨b, 0, none⟩)))) (h : WL P ops Q rest (fr.set t (dP n agg d)) hp) : WL P ops Q rest fr (hCell b T n agg d :: hp) := by
  refine WL.of fun P0 B w0 w a hh hf => ?_
  obtain ⟨cs, u, c1, c2, c0, c3, c4, c5⟩ := hh.ok (hCell b T n agg d) (by simp)
  have hown := hh.own (hCell b T n agg d) (by simp) b rfl
  refine h.on hh.drop ⟨hf.defers, by rw [hf.size, List.length_set], fun t' d' hd' => ?_⟩
  by_cases htt : t = t'
  · subst htt
    rw [List.getElem?_set] at hd'
    simp only [if_true] at hd'
    split at hd'
    · cases hd'
      have hv : a.tmps.getD t undef = .pointer (some ⟨b, 0, none⟩) := hf.rd t _ hp0
      rw [hv]
      refine ⟨b, 0, u, rfl, cells_of_obj c1 c2 c0 c3 c4 ⟨.inr hown.1, fun o' ho' hk => ?_⟩, d.weak c5 Imm.sub⟩
      exact (List.pairwise_cons.1 hh.apart).1 o' ho' b rfl hk
    · cases hd'
  · rw [List.getElem?_set_ne htt] at hd'
    exact d'.weak (hf.rd t' d' hd') Imm.sub
theorem WL.storeF {x : Operand} {t b n : Nat} {T T2 : TypeId} {agg : Bool} {d0 : Dat} (hT : TyI P T n agg) (hp0 : fr[t]? = some (dX (.pointer (some ⟨b, 0, none⟩)))) (hx : OpD fr x d) (hs : d.Shape n agg)
    (h : WL P ops Q rest (fr.set t (dP n agg d)) hp) : WL P ops Q ({ dst := none, op := .store T (.tmp t) x, type := ty, pos := ps, after := af, guard := none } :: rest) fr (hCell b T2 n agg d0 :: hp) :=
  WL.storeK hT (OpD.t hp0) hx hs (WL.freeze hp0 h)
end


open Go.RowKit

section
variable {P : Program} {ops : Array Oper} {hp : List HObj} {o : Oper} {fr : List Dat} {d : Dat} {Q : Post} {rest : List Oper}
variable {dst : Option Tmp} {ty : TypeId} {ps : String} {af : Array Edge} {g : Option (Nat × Bool)}
variable {t e : TypeId} {n bytes : Nat} {z : Value} {ag : Bool}

theorem WL.pushK {s x : Operand} {k : Tmp} {dst2 : Option Tmp} {ty2 : TypeId} {ps2 : String} {af2 : Array Edge} (E : ElT P t e n z bytes ag) {α : Type} {R : Rel α} {_gR : Good R} {v : Value} {xs : List α} {y : α} (hs : OpD fr s (dX v)) (hx : OpD fr x (dS R y)) (hsh : ∀ a, (dS R a).Shape n true) (hne : s ≠ .tmp k) (hkl : k < fr.length) (hn : 0 < n ∧ n ≤ 16777216) (hby : 0 < bytes)
    (hlen : (xs.length + 1) * bytes ≤ 140737488355328) (h : ∀ v', WL P ops Q rest (setD (fr.set k dA) dst2 (dX v')) (hRowK v' e n R (xs ++ [y]) :: hp)) :
    WL P ops Q ({ dst := some k, op := .buildSlice t 1 #[(0, x)], type := ty, pos := ps, after := af, guard := none } :: { dst := dst2, op := .call { callee := .builtin .append, args := #[s, .tmp k], argTypes := #[t, t] }, type := ty2, pos := ps2, after := af2, guard := none } :: rest) fr (hRowK v e n R xs :: hp) := by
  refine WL.of fun P0 B w0 w a hh hf => ?_
  have hxr := hx.ev hf
  obtain ⟨cs, k1, k0, k2, k3, k4⟩ := hsh y _ _ _ hxr
  simp only [if_true] at k4
  have hb := run_buildN (w := w) E (us := [a.eval x]) (css := [cs]) rfl (fun i u cs' hu hcs => by
    cases i with
    | zero => cases hu; cases hcs; exact ⟨k3, k1⟩
    | succ i => simp at hu) (by simp; omega)
  refine wpListIn_valueW rfl (v := .slice (some ⟨w.heap.size, 0, none⟩) 1 1) (w' := w.alloc (.cells [cs].flatten.toArray e)) ?_ ?_
  · unfold execOp
    simp only [List.map_toArray, List.map_cons, List.map_nil, Sem.run_bind]
    have : (Instr.buildSlice t 1 #[(0, a.eval x)]).run P w = .ok (.slice (some ⟨w.heap.size, 0, none⟩) 1 1) (w.alloc (.cells [cs].flatten.toArray e)) := hb
    simp only [this, Result.andThen_ok, Sem.run_pure]
  have hxe := Ext.of_alloc w (.cells [cs].flatten.toArray e)
  have hh1 := hh.ext hxe
  have hf1 : Fr (Imm P0 B (hRowK v e n R xs :: hp)) (w.alloc (.cells [cs].flatten.toArray e)) (a.put (some k) (.slice (some ⟨w.heap.size, 0, none⟩) 1 1)) (fr.set k dA) := Fr.put (x := some k) (hf.ext hxe) (d := dA) trivial
  have hm : xs.length + [y].length ≤ maxLen := by
    have : (xs.length + 1) * 1 ≤ (xs.length + 1) * bytes := Nat.mul_le_mul_left _ hby
    simp only [maxLen, List.length_cons, List.length_nil]; omega
  obtain ⟨v', w', hr, r1, r2, r3⟩ := appK_step (ty := ty2) E hh1 (ad := ⟨w.heap.size, 0, none⟩) (c := 1) (ys := [y]) (news := [cs]) rfl (fun j u hu => by
      rw [Addr.add_lit, cell_of_row _ _ _ _ _ _ (alloc_get w _), Nat.zero_add]
      simpa using hu) (fun u hu => by rw [List.mem_singleton.1 hu]; exact ⟨k1, k2⟩) (fun j h1 h2 => by
      have hj : j = 0 := by simp at h1; omega
      subst hj
      have := Good.ext (R := R) hxr hxe
      rw [k4] at this
      exact this) (by simpa using hlen) hm
  refine wp_append (v := v) (yv := .slice (some ⟨w.heap.size, 0, none⟩) 1 1) ?_ (eval_put_same (by rw [hf.size]; exact hkl)) hr ?_
  · rw [eval_put_ne hne]; exact hs.ev hf
  · exact (h v').on r1 (Fr.put (x := dst2) (hf1.mono fun d _ hd => Hp.written (o := hRowK v e n R xs) (o' := hRowK v' e n R (xs ++ [y])) r2 r3 hd) (d := dX v') rfl)
theorem WL.push1 {s x : Operand} {k : Tmp} {dst2 : Option Tmp} {ty2 : TypeId} {ps2 : String} {af2 : Array Edge} (E : ElT P t e 1 z bytes ag) {α : Type} {R : Rel α} {_gR : Good R} {v : Value} {xs : List α} {y : α} (hs : OpD fr s (dX v)) (hx : OpD fr x (dS R y)) (hsh : ∀ a, (dS R a).Shape 1 false) (hne : s ≠ .tmp k) (hkl : k < fr.length) (hby : 0 < bytes)
    (hlen : (xs.length + 1) * bytes ≤ 140737488355328) (h : ∀ v', WL P ops Q rest (setD (fr.set k dA) dst2 (dX v')) (hRow v' e R (xs ++ [y]) :: hp)) :
    WL P ops Q ({ dst := some k, op := .buildSlice t 1 #[(0, x)], type := ty, pos := ps, after := af, guard := none } :: { dst := dst2, op := .call { callee := .builtin .append, args := #[s, .tmp k], argTypes := #[t, t] }, type := ty2, pos := ps2, after := af2, guard := none } :: rest) fr (hRow v e R xs :: hp) := by
  refine WL.of fun P0 B w0 w a hh hf => ?_
  have hxr := hx.ev hf
  obtain ⟨cs, k1, k0, k2, k3, k4⟩ := hsh y _ _ _ hxr
  simp only [Bool.false_eq_true, if_false] at k4
  subst k4
  have hb := run_buildN (w := w) E (us := [a.eval x]) (css := [[a.eval x]]) rfl (fun i u cs' hu hcs => by
    cases i with
    | zero => cases hu; cases hcs; exact ⟨k3, k1⟩
    | succ i => simp at hu) (by simp)
  refine wpListIn_valueW rfl (v := .slice (some ⟨w.heap.size, 0, none⟩) 1 1) (w' := w.alloc (.cells [[a.eval x]].flatten.toArray e)) ?_ ?_
  · unfold execOp
    simp only [List.map_toArray, List.map_cons, List.map_nil, Sem.run_bind]
    have : (Instr.buildSlice t 1 #[(0, a.eval x)]).run P w = .ok (.slice (some ⟨w.heap.size, 0, none⟩) 1 1) (w.alloc (.cells [[a.eval x]].flatten.toArray e)) := hb
    simp only [this, Result.andThen_ok, Sem.run_pure]
  have hxe := Ext.of_alloc w (.cells [[a.eval x]].flatten.toArray e)
  have hh1 := hh.ext hxe
  have hf1 : Fr (Imm P0 B (hRow v e R xs :: hp)) (w.alloc (.cells [[a.eval x]].flatten.toArray e)) (a.put (some k) (.slice (some ⟨w.heap.size, 0, none⟩) 1 1)) (fr.set k dA) := Fr.put (x := some k) (hf.ext hxe) (d := dA) trivial
  have hm : xs.length + [y].length ≤ maxLen := by
    have : (xs.length + 1) * 1 ≤ (xs.length + 1) * bytes := Nat.mul_le_mul_left _ hby
    simp only [maxLen, List.length_cons, List.length_nil]; omega
  obtain ⟨v', w', hr, r1, r2, r3⟩ := app1_step (ty := ty2) E hh1 (ad := ⟨w.heap.size, 0, none⟩) (c := 1) (ys := [y]) (news := [a.eval x]) rfl (fun j u hu => by
      rw [Addr.add_lit, cell_of_row _ _ _ _ _ _ (alloc_get w _), Nat.zero_add]
      simpa using hu) k2 (fun j h1 h2 => by
      have hj : j = 0 := by simp at h1; omega
      subst hj
      exact Good.ext (R := R) hxr hxe) (by simpa using hlen) hm
  refine wp_append (v := v) (yv := .slice (some ⟨w.heap.size, 0, none⟩) 1 1) ?_ (eval_put_same (by rw [hf.size]; exact hkl)) hr ?_
  · rw [eval_put_ne hne]; exact hs.ev hf
  · exact (h v').on r1 (Fr.put (x := dst2) (hf1.mono fun d _ hd => Hp.written (o := hRow v e R xs) (o' := hRow v' e R (xs ++ [y])) r2 r3 hd) (d := dX v') rfl)

end


open Go.RowKit

section
variable {P : Program} {ops : Array Oper} {hp : List HObj} {md : Region.Mode} {w : World}

end



open Go.RowKit


open Go.RowKit

open Go.RowKit

open Go.RowKit


end Go.Proofs.Ytpiidgcljlalmaa.I
namespace Go.Proofs.Ytpiidgcljlalmaa
open Go.RowKit
theorem want_undef {ops : Array Oper} {o : Oper} {fr : List Dat} {gi : Nat} {pol : Bool} {t : Tmp} (hg : o.guard = some (gi, pol)) (ht : (ops[gi]?).bind (·.dst) = some t) (hf : fr[t]? = some (dX undef)) : WantS ops o fr false := WantS.mk fun I w a ho => by
  have h1 : a.tmps.getD t undef = undef := ho.2 t (guard_mem hg ht) _ hf
  have hlt : t < a.tmps.size := by rw [ho.1]; exact (List.getElem?_eq_some_iff.1 hf).1
  have h2 : a.tmps[t]? = some undef := by
    rw [Array.getD_eq_getD_getElem?] at h1
    rw [Array.getElem?_eq_getElem hlt] at h1 ⊢
    simpa using h1
  simp [Region.wanted, hg, yielded, ht, h2, undef]
end Go.Proofs.Ytpiidgcljlalmaa
namespace Go.Proofs.Ytpiidgcljlalmaa
open Go.RowKit
theorem shape_Agg {ds : List Dat} {n : Nat} (hn : 0 < n) (hl : ds.length = n) : (dAgg ds).Shape n true := fun _ _ _ h => by
  obtain ⟨cs, rfl, h2, h3, _⟩ := h
  exact ⟨cs, by omega, by omega, h3, rfl, rfl⟩
end Go.Proofs.Ytpiidgcljlalmaa
namespace Go.Proofs.Ytpiidgcljlalmaa
open Go.RowKit
section
variable {P : Program} {ops : Array Oper} {hp : List HObj} {fr : List Dat} {Q : Post} {rest : List Oper} {c : Code} {d : Dat} {α : Type} {R : Rel α} {e : TypeId}
theorem WC.freeze {_gR : Good R} {v : Value} {xs : List α} (h : WC P Q c fr (hKnow v (dS (Arr R) xs) :: hp)) : WC P Q c fr (hRow v e R xs :: hp) := WC.of fun P0 B w0 w a hh hf => by
  have hg : (hKnow v (dS (Arr R) xs)).blk = none := rfl
  have hd : (dS (Arr R) xs).rd (Imm P0 B hp) w v := Own.keep hh
  exact h.on (Hp.ghost (l := []) hg hh.drop hd) (hf.mono fun d u hd => d.weak hd fun k hk => (imm_ghost hg [] k).2 (Imm.sub k hk))
end
end Go.Proofs.Ytpiidgcljlalmaa
namespace Go.Proofs.Ytpiidgcljlalmaa
open Go.RowKit
set_option maxRecDepth 100000
theorem eqBB : ∀ (x y : Operand) (p q : Bool) w, (do eqGuard .eql 4 x y (.bool p) (.bool q); Go.binOp .eql 4 (.bool p) (.bool q)).run Try.prog w = .ok (.bool (p == q)) w := by
  intro x y p q w; cases p <;> cases q <;> go_simp
end Go.Proofs.Ytpiidgcljlalmaa
namespace Go.Proofs.Ytpiidgcljlalmaa
open Go.RowKit

def sameI : List Int → List Int → Bool
  | [], [] => true
  | x :: a, y :: b => if x ≠ y then false else sameI a b
  | _, _ => false
def sameAllI : List (List Int) → List (List Int) → Bool
  | [], [] => true
  | x :: a, y :: b => if sameI x y = true then sameAllI a b else false
  | _, _ => false
theorem sameI_step {a b : List Int} {k : Nat} (h : k < a.length) (h' : k < b.length) : sameI (a.drop k) (b.drop k) = if a[k] ≠ b[k] then false else sameI (a.drop (k + 1)) (b.drop (k + 1)) := by
  rw [List.drop_eq_getElem_cons h, List.drop_eq_getElem_cons h', sameI]
theorem sameI_len : ∀ {a b : List Int}, a.length ≠ b.length → sameI a b = false
  | [], [], h => absurd rfl h
  | [], y :: b, _ => rfl
  | x :: a, [], _ => rfl
  | x :: a, y :: b, h => by
    simp only [sameI]
    split
    · rfl
    · exact sameI_len (by simpa using h)
theorem sameAllI_step {a b : List (List Int)} {k : Nat} (h : k < a.length) (h' : k < b.length) : sameAllI (a.drop k) (b.drop k) = if sameI a[k] b[k] = true then sameAllI (a.drop (k + 1)) (b.drop (k + 1)) else false := by
  rw [List.drop_eq_getElem_cons h, List.drop_eq_getElem_cons h', sameAllI]
theorem sameAllI_len : ∀ {a b : List (List Int)}, a.length ≠ b.length → sameAllI a b = false
  | [], [], h => absurd rfl h
  | [], y :: b, _ => rfl
  | x :: a, [], _ => rfl
  | x :: a, y :: b, h => by
    simp only [sameAllI]
    split
    · exact sameAllI_len (by simpa using h)
    · rfl
theorem trueI_step {c l : List Int} {k : Nat} (h : k < c.length) : trueI (c.drop k) l = if hasI l c[k] = true then true else trueI (c.drop (k + 1)) l := by
  rw [List.drop_eq_getElem_cons h, trueI]
theorem sameI_iff : ∀ (a b : List Int), sameI a b = true ↔ a = b
  | [], [] => by simp [sameI]
  | [], y :: b => by simp [sameI]
  | x :: a, [] => by simp [sameI]
  | x :: a, y :: b => by
    simp only [sameI]
    by_cases h : x = y
    · simp [h, sameI_iff a b]
    · simp [h]
theorem sameAllI_iff : ∀ (a b : List (List Int)), sameAllI a b = true ↔ a = b
  | [], [] => by simp [sameAllI]
  | [], y :: b => by simp [sameAllI]
  | x :: a, [] => by simp [sameAllI]
  | x :: a, y :: b => by
    simp only [sameAllI]
    by_cases h : sameI x y = true
    · simp [(sameI_iff x y).1 h, sameAllI_iff a b, (sameI_iff y y).2 rfl]
    · have hn : x ≠ y := fun e => h ((sameI_iff x y).2 e)
      simp [h, hn]

end Go.Proofs.Ytpiidgcljlalmaa
namespace Go.Proofs.Ytpiidgcljlalmaa
open Go.RowKit
def modF : Nat → List (List Int) → List Int → List (List Int)
  | 0, l, a => if emptyC l = true then [] else [a]
  | n + 1, l, a => if emptyC l = true then [] else modF n (asgI l ((a.length : Int) + 1)) (a ++ [(a.length : Int) + 1]) ++ modF n (asgI l (-((a.length : Int) + 1))) (a ++ [-((a.length : Int) + 1)])
theorem mod_all {l : List (List Int)} {V : Nat} (hl : ∀ c ∈ l, ∀ x ∈ c, x ≠ 0 ∧ x.natAbs ≤ V) : ∀ (n : Nat) (a : List Int), PosL a → a.length + n = V → modF n (redI l a) a = allF n l a
  | 0, a, hp, hV => by
    unfold modF allF
    by_cases he : emptyC (redI l a) = true
    · obtain ⟨c, c1, c2, _⟩ := empty_red.1 he
      rw [if_pos he, if_neg]
      intro q
      rw [List.all_eq_true.1 q c c1] at c2
      cases c2
    · rw [if_neg he, if_pos (all_full hl hp (by omega) (by simpa using he))]
  | n + 1, a, hp, hV => by
    unfold modF
    by_cases he : emptyC (redI l a) = true
    · obtain ⟨c, c1, _, c3⟩ := empty_red.1 he
      rw [if_pos he, all_wrong (n + 1) a hp ⟨c, c1, c3⟩]
    · rw [if_neg he, ← red_snoc l (hp.new (.inl rfl)).2, ← red_snoc l (hp.new (.inr rfl)).2, mod_all hl n _ (hp.snoc (.inl rfl)) (by rw [List.length_append, List.length_singleton]; omega), mod_all hl n _ (hp.snoc (.inr rfl)) (by rw [List.length_append, List.length_singleton]; omega)]
      rfl
theorem models_same {l : List (List Int)} {V : Nat} (hl : ∀ c ∈ l, ∀ x ∈ c, x ≠ 0 ∧ x.natAbs ≤ V) : modF V l [] = allF V l [] := by
  have := mod_all hl V [] (fun i x e => by simp at e) (by simp)
  rwa [red_nil] at this
end Go.Proofs.Ytpiidgcljlalmaa
namespace Go.Proofs.Ytpiidgcljlalmaa
open Go.RowKit
theorem all_nodup {l : List (List Int)} : ∀ (n : Nat) (a : List Int), PosL a → (allF n l a).Nodup
  | 0, a, _ => by
    unfold allF
    split <;> simp
  | n + 1, a, hp => by
    unfold allF
    rw [List.nodup_append]
    refine ⟨all_nodup n _ (hp.snoc (.inl rfl)), all_nodup n _ (hp.snoc (.inr rfl)), fun x hx y hy q => ?_⟩
    subst q
    obtain ⟨⟨t, h1⟩, _⟩ := (all_mem n _ (hp.snoc (.inl rfl))).1 hx
    obtain ⟨⟨u, h2⟩, _⟩ := (all_mem n _ (hp.snoc (.inr rfl))).1 hy
    rw [h2, List.append_assoc, List.append_assoc] at h1
    have h3 := List.append_cancel_left h1
    have h4 : -((a.length : Int) + 1) = (a.length : Int) + 1 := (List.cons.inj h3).1
    omega
theorem all_filter {l : List (List Int)} : ∀ (n : Nat) (a : List Int), allF n l a = (allF n [] a).filter fun m => l.all fun c => trueI c m
  | 0, a => by
    have e0 : allF 0 [] a = [a] := rfl
    rw [e0]
    unfold allF
    by_cases h : l.all (fun c => trueI c a) = true
    · rw [if_pos h]
      exact (List.filter_cons_of_pos (p := fun m => l.all fun c => trueI c m) (l := []) h).symm
    · rw [if_neg h]
      exact (List.filter_cons_of_neg (p := fun m => l.all fun c => trueI c m) (l := []) h).symm
  | n + 1, a => by
    unfold allF
    rw [all_filter (l := l) n (a ++ [(a.length : Int) + 1]), all_filter (l := l) n (a ++ [-((a.length : Int) + 1)]), List.filter_append]
def bitsM (V b : Nat) : List Int := (List.range V).map fun v => if b.testBit v then (v : Int) + 1 else -((v : Int) + 1)
theorem bits_pos (V b : Nat) : (bitsM V b).length = V ∧ PosL (bitsM V b) := by
  refine ⟨by simp [bitsM], fun i x e => ?_⟩
  unfold bitsM at e
  rw [List.getElem?_map] at e
  obtain ⟨j, hj, rfl⟩ := Option.map_eq_some_iff.1 e
  have : j = i := by
    obtain ⟨h1, h2⟩ := List.getElem?_eq_some_iff.1 hj
    simpa using h2.symm
  subst this
  split
  · exact .inl rfl
  · exact .inr rfl
theorem bits_inj {V a b : Nat} (ha : a < 2 ^ V) (hb : b < 2 ^ V) (h : bitsM V a = bitsM V b) : a = b := by
  refine Nat.eq_of_testBit_eq fun i => ?_
  by_cases hi : i < V
  · have h1 : (bitsM V a)[i]? = (bitsM V b)[i]? := by rw [h]
    unfold bitsM at h1
    rw [List.getElem?_map, List.getElem?_map, List.getElem?_eq_getElem (by simpa using hi), Option.map_some, Option.map_some, List.getElem_range] at h1
    have h2 := Option.some.inj h1
    cases ha' : a.testBit i <;> cases hb' : b.testBit i <;> rw [ha', hb'] at h2 <;> simp at h2 ⊢ <;> omega
  · rw [Nat.testBit_lt_two_pow (Nat.lt_of_lt_of_le ha (Nat.pow_le_pow_right (by decide) (by omega))), Nat.testBit_lt_two_pow (Nat.lt_of_lt_of_le hb (Nat.pow_le_pow_right (by decide) (by omega)))]
theorem tries_all (l : List (List Int)) (V : Nat) : ((List.range (2 ^ V)).filter fun b => l.all fun c => trueI c (bitsM V b)).length = (allF V l []).length := by
  have hn : ((List.range (2 ^ V)).map (bitsM V)).Nodup := by
    refine List.pairwise_map.2 (List.Pairwise.imp_of_mem (fun {a b} ha hb hab q => ?_) (List.nodup_range (n := 2 ^ V)))
    exact hab (bits_inj (List.mem_range.1 ha) (List.mem_range.1 hb) q)
  have hlen : (allF V [] []).length = 2 ^ V := all_pow V [] fun c hc => by cases hc
  have hsub : ∀ m ∈ (List.range (2 ^ V)).map (bitsM V), m ∈ allF V [] [] := fun m hm => by
    obtain ⟨b, _, rfl⟩ := List.mem_map.1 hm
    obtain ⟨h1, h2⟩ := bits_pos V b
    exact model_mem.2 ⟨h1, h2, fun c hc => by cases hc⟩
  have hsur : ∀ m ∈ allF V [] [], m ∈ (List.range (2 ^ V)).map (bitsM V) := fun m hm => Classical.byContradiction fun q => by
    have h1 : (m :: (List.range (2 ^ V)).map (bitsM V)).Nodup := List.nodup_cons.2 ⟨q, hn⟩
    have h2 := List.Nodup.length_le_of_subset h1 (l₂ := allF V [] []) fun x hx => by
      rcases List.mem_cons.1 hx with rfl | hx
      · exact hm
      · exact hsub x hx
    rw [hlen, List.length_cons, List.length_map, List.length_range] at h2
    omega
  have e : ((List.range (2 ^ V)).filter fun b => l.all fun c => trueI c (bitsM V b)).length = (((List.range (2 ^ V)).map (bitsM V)).filter fun m => l.all fun c => trueI c m).length := by
    rw [List.filter_map, List.length_map]
    rfl
  rw [e, all_filter V (l := l)]
  refine Nat.le_antisymm ?_ ?_
  · exact List.Nodup.length_le_of_subset (hn.filter _) fun m hm => by
      obtain ⟨h1, h2⟩ := List.mem_filter.1 hm
      exact List.mem_filter.2 ⟨hsub m h1, h2⟩
  · exact List.Nodup.length_le_of_subset ((all_nodup V [] pos_nil).filter _) fun m hm => by
      obtain ⟨h1, h2⟩ := List.mem_filter.1 hm
      exact List.mem_filter.2 ⟨hsur m h1, h2⟩
end Go.Proofs.Ytpiidgcljlalmaa
namespace Go.Proofs.Ytpiidgcljlalmaa
open Go.RowKit
theorem cho_up (l : List (List Int)) : chosenI l (upI l.length) = l := by
  unfold chosenI upI
  apply List.ext_getElem
  · simp
  · intro i h1 h2
    simp [List.getD_eq_getElem?_getD, h2]
def core43 (V : Nat) (l : List (List Int)) : List Int := prune (fun ks => unsB V (chosenI l ks)) l.length (upI l.length)
end Go.Proofs.Ytpiidgcljlalmaa
