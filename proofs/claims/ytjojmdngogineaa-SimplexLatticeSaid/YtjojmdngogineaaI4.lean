/-
  Rows of vertices of the call's own: made with room, appended to in their room, copied.
-/
import Derived.Test.YtjojmdngogineaaI3
namespace Go.Proofs.Ytjojmdngogineaa
open Go.RowKit
section
variable {P : Program} {ops : Array Oper} {hp : List HObj} {fr : List Dat} {d : Dat} {Q : Post} {rest : List Oper}
variable {dst : Option Tmp} {ty : TypeId} {ps : String} {af : Array Edge} {g : Option (Nat × Bool)} {b cap N bytes : Nat} {e t T T2 : TypeId} {xs : List Vx} {z : Value} {ag : Bool}
theorem SY.eqNilO {x : Operand} {ad : Addr} {m c : Nat} (hx : OpD fr x (dX (.slice (some ad) m c))) (hq : ∀ (x y : Operand) ad m c w, (do eqGuard .eql T x y (.slice ad m c) (.slice none 0 0); Go.binOp .eql T (.slice ad m c) (.slice none 0 0)).run P w = .ok (.bool ad.isNone) w) :
    SY P ops hp { dst := dst, op := .binOp .eql T x (.const (.slice none 0 0)) T2, type := ty, pos := ps, after := af, guard := g } fr (dB false) := SY.val fun {I w a} ho => by
  have hv : a.eval x = .slice (some ad) m c := hx.get (by simp [Op.operands]) ho
  refine ⟨.bool false, ?_, rfl⟩
  have := hq x (.const (.slice none 0 0)) (some ad) m c w
  unfold execOp
  have hc : a.eval (.const (.slice none 0 0)) = .slice none 0 0 := rfl
  simp only [hv, hc]
  rw [Sem.run_bind, this]
  simp
theorem ownK_flat {I : Nat → Prop} {w : World} {v : Value} (h : w.ownsRow 0 e 2 v xs.length (flatV xs)) : OwnK 0 e 2 RV I w v xs := by
  refine ⟨xs.map encV, by simp, fun u hu => ?_, by decide, h, fun k h h' => ?_⟩
  · obtain ⟨y, _, rfl⟩ := List.mem_map.1 hu
    exact ⟨rfl, by simp [encV, Value.oneCell']⟩
  · show Value.agg _ = _
    rw [List.getElem_map]
    rfl
theorem ownK_owns {I : Nat → Prop} {w : World} {v : Value} (h : OwnK 0 e 2 RV I w v xs) : w.ownsRow 0 e 2 v xs.length (flatV xs) := by
  obtain ⟨us, h1, h2, h0, h3, h4⟩ := h
  have hus := us_encV h1 h4
  subst hus
  exact h3
/-- a row is copied behind another one -/
theorem WL.appKO {s y : Operand} {dst2 : Option Tmp} {ty2 : TypeId} {ps2 : String} {af2 : Array Edge} {v : Value} {ys : List Vx} (E : ElT P t e 2 z bytes ag) (hs : OpD fr s (dX v)) (hy : OpD fr y (dX (.slice (some ⟨b, 0, none⟩) N cap))) (hby : 0 < bytes)
    (hlen : (xs.length + ys.length) * bytes ≤ 140737488355328) (h : ∀ v', WL P ops Q rest (setD fr dst2 (dX v')) (hRowK v' e 2 RV (xs ++ ys) :: hV b N cap e ys :: hp)) :
    WL P ops Q ({ dst := dst2, op := .call { callee := .builtin .append, args := #[s, y], argTypes := #[t, t] }, type := ty2, pos := ps2, after := af2, guard := none } :: rest) fr (hRowK v e 2 RV xs :: hV b N cap e ys :: hp) := by
  refine WL.of fun P0 B w0 w a hh hf => ?_
  have hm : xs.length + ys.length ≤ maxLen := by
    have : (xs.length + ys.length) * 1 ≤ (xs.length + ys.length) * bytes := Nat.mul_le_mul_left _ hby
    simp only [maxLen]; omega
  obtain ⟨hN, hrow⟩ := hV_row.1 (hh.ok (hV b N cap e ys) (by simp))
  subst hN
  obtain ⟨v', w', hr, r1, r2, r3⟩ := appK_step (ty := ty2) E hh (ad := ⟨b, 0, none⟩) (c := cap) (ys := ys) (news := ys.map encV) (by simp) (fun j u hu => by
      have hlt := (List.getElem?_eq_some_iff.1 hu).1
      have h2 : (ys.map encV).flatten.length = ys.length * 2 := flatV_len ys
      rw [h2] at hlt
      rw [Addr.add_lit, Nat.zero_add, (row_cell hrow j hlt).1]
      exact hu)
    (fun u hu => by
      obtain ⟨x, _, rfl⟩ := List.mem_map.1 hu
      exact ⟨rfl, by simp [encV, Value.oneCell']⟩) (fun k h1 h2 => by
      show Value.agg _ = _
      rw [List.getElem_map]
      rfl) hlen hm
  refine wp_append (v := v) (yv := _) (hs.ev hf) (hy.ev hf) hr ?_
  exact (h v').on r1 (Fr.put (x := dst2) (hf.mono fun d _ hd => Hp.written (o := hRowK v e 2 RV xs) (o' := hRowK v' e 2 RV (xs ++ ys)) r2 r3 hd) (d := dX v') rfl)
end
namespace I
section
variable {P : Program} {ops : Array Oper} {hp : List HObj} {fr : List Dat} {d : Dat} {Q : Post} {rest : List Oper}
variable {dst : Option Tmp} {ty : TypeId} {ps : String} {af : Array Edge} {g : Option (Nat × Bool)} {b cap N bytes : Nat} {e t T T2 : TypeId} {xs : List Vx} {z : Value} {ag : Bool}
/-- a row with room -/
theorem WL.makeO {k : Nat} {j : Int} {y : Operand} (E : ElT P t e 2 z bytes ag) (hy : OpD fr y (dI j)) (hj : j = (k : Int)) (hb : bytes * k ≤ 281474976710656) (hm : k ≤ maxLen) (h : ∀ b, WL P ops Q rest (setD fr dst (dX (.slice (some ⟨b, 0, none⟩) 0 k))) (hV b 0 k e [] :: hp)) :
    WL P ops Q ({ dst := dst, op := .makeSlice t (.const (.int .i64 0)) y, type := ty, pos := ps, after := af, guard := none } :: rest) fr hp := by
  refine WL.of fun P0 B w0 w a hh hf => ?_
  have h1 : a.eval y = .int .i64 k := by rw [← hj]; exact hy.ev hf
  obtain ⟨i, hi, hz, hsz, hbt⟩ := info_parts E.info
  obtain ⟨w', hr, r1, r2⟩ := run_make_own (P := P) w 0 t e i z 2 E.und hi hz hsz .i64 .i64 k (by rw [hbt]; exact hb) hm (Nat.zero_le _)
  refine wpListIn_valueW rfl (v := .slice (some ⟨w.heap.size, 0, none⟩) 0 k) (w' := w') ?_ ?_
  · unfold execOp
    have hc : a.eval (.const (.int .i64 0)) = .int .i64 0 := rfl
    simp only [h1, hc, Sem.run_bind, hr, Result.andThen_ok, Sem.run_pure]
  have hx : Ext w w' := ⟨r2.os, r2.tape, r2.output, r2.size, fun k hk => r2.block k hk (by simp)⟩
  have hb : ∀ q, (hV w.heap.size 0 k e []).blk = some q → w.heap.size ≤ q ∧ q < w'.heap.size := fun q hq => by
    cases hq
    exact ⟨Nat.le_refl _, (r1.lt _ rfl).2⟩
  refine (h w.heap.size).on (hh.push hx hb (ownK_flat (xs := []) r1)) ?_
  exact Fr.put (hf.mono fun d _ hd => Hp.pushed hx (fun k hk => (hb k hk).1) hd) rfl
/-- an element goes into the room -/
theorem WL.pushO {s y : Operand} {v : Vx} (E : ElT P t e 2 z bytes ag) (hs : OpD fr s (dX (.slice (some ⟨b, 0, none⟩) N cap))) (hy : OpD fr y (dS (ArrK 2 RV) [v])) (hN : N + 1 ≤ cap)
    (h : WL P ops Q rest (setD fr dst (dX (.slice (some ⟨b, 0, none⟩) (N + 1) cap))) (hV b (N + 1) cap e (xs ++ [v]) :: hp)) :
    WL P ops Q ({ dst := dst, op := .call { callee := .builtin .append, args := #[s, y], argTypes := #[t, t] }, type := ty, pos := ps, after := af, guard := none } :: rest) fr (hV b N cap e xs :: hp) := by
  refine WL.of fun P0 B w0 w a hh hf => ?_
  obtain ⟨ad, cap', hv, c1, c2, c0, c3⟩ := (hy.ev hf : ArrK 2 RV _ _ _ _)
  obtain ⟨cs, b', off, r1, r2, r3, r4, r5, r6⟩ := c3 0 (by simp)
  subst r4
  have hNx := (hV_row.1 (hh.ok (hV b N cap e xs) (by simp))).1
  have hown := ownK_owns (hh.ok (hV b N cap e xs) (by simp))
  obtain ⟨i, hi, hz, hsz, hbt⟩ := info_parts E.info
  subst hNx
  have hcs : cs = encV v := by
    have h1 : Value.agg cs.toArray = Value.agg (encV v).toArray := r1
    have h2 : cs.toArray = (encV v).toArray := by injection h1
    have := congrArg Array.toList h2
    simpa using this
  obtain ⟨w', hr, q1, q2⟩ := run_append_fits (P := P) w 0 t ty e i 2 E.und hi hsz b xs.length cap (flatV xs) hown ⟨b', off, none⟩ 1 cap' cs (by rw [r2]) (fun j u hu => by rw [Addr.add_lit]; simpa using r6 j u hu) r3 hN
  have hse : a.eval s = .slice (some ⟨b, 0, none⟩) xs.length cap := hs.ev hf
  refine wpListIn_valueW rfl (v := .slice (some ⟨b, 0, none⟩) (xs.length + 1) cap) (w' := w') ?_ ?_
  · unfold execOp
    simp only [resolve, invoke, builtin, List.map_toArray, List.map_cons, List.map_nil, hse, hv, Sem.run_bind, Sem.run_pure, Result.andThen_ok]
    have e0 : ([v] : List Vx).length = 1 := rfl
    rw [e0, hr]
    simp
  have hfl : flatV xs ++ cs = flatV (xs ++ [v]) := by rw [flatV_app, hcs]; rfl
  rw [hfl] at q1
  have hok : (hV b (xs.length + 1) cap e (xs ++ [v])).ok (fun k => Imm P0 B (hV b xs.length cap e xs :: hp) k ∧ k < w.heap.size) w' := ownK_flat (by simpa using q1)
  exact h.on (hh.write (o' := hV b (xs.length + 1) cap e (xs ++ [v])) q2 (.inl rfl) hok) (Fr.put (hf.mono fun _ _ hd => Hp.written (o := hV b xs.length cap e xs) (o' := hV b (xs.length + 1) cap e (xs ++ [v])) q2 (.inl rfl) hd) (d := dX _) rfl)
theorem WL.cutO {k : Nat} (hk : k ≤ xs.length) (h : WL P ops Q rest fr (hV b k cap e (xs.take k) :: hp)) : WL P ops Q rest fr (hV b N cap e xs :: hp) := WL.of fun P0 B w0 w a hh hf => by
  obtain ⟨hN, tl, hg, hc1, hc2, hc3⟩ := hV_row.1 (hh.ok (hV b N cap e xs) (by simp))
  have hgr : w.grownBy w (hV b N cap e xs).blk := ⟨rfl, rfl, rfl, Nat.le_refl _, fun _ _ _ => rfl⟩
  have e1 : flatV xs ++ tl = flatV (xs.take k) ++ (flatV (xs.drop k) ++ tl) := by rw [← List.append_assoc, ← flatV_app, List.take_append_drop]
  have hok : (hV b k cap e (xs.take k)).ok (fun j => Imm P0 B (hV b N cap e xs :: hp) j ∧ j < w.heap.size) w :=
    hV_row.2 ⟨by simp; omega, flatV (xs.drop k) ++ tl, by rw [← e1]; exact hg, by simp; omega, hc2, by rw [← e1]; exact hc3⟩
  exact h.on (hh.write hgr (.inl rfl) hok) (hf.mono fun _ _ hd => Hp.written (o' := hV b k cap e (xs.take k)) hgr (.inl rfl) hd)
end
end I
end Go.Proofs.Ytjojmdngogineaa
