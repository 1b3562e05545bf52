/-
  Part 9 of the texts that the claims of this seat lean on: walks of the program's functions by contracts over symbolic frames, and plain laws of what they compute. No condition.
-/
import Derived.Deep.MidRow
import Derived.Test.YtjbepoofigokjaaGreatVf6
import Derived.Test.YtjbepoofigokjaaGreatVf8
set_option linter.unusedVariables false
set_option linter.unusedSimpArgs false
set_option linter.unusedSectionVars false
namespace Go.Proofs.YtjbepoofigokjaaGreat
open Go.RowKit

def flatV (xs : List Vx) : List Value := (xs.map encV).flatten
theorem flatV_nil : flatV [] = [] := rfl
theorem flatV_cons (x : Vx) (l : List Vx) : flatV (x :: l) = .int .i64 x.1 :: .int .i64 x.2 :: flatV l := rfl
theorem flatV_len : ∀ (l : List Vx), (flatV l).length = l.length * 2
  | [] => rfl
  | x :: l => by rw [flatV_cons]; simp only [List.length_cons, flatV_len l]; omega
theorem flatV_app (a b : List Vx) : flatV (a ++ b) = flatV a ++ flatV b := by unfold flatV; rw [List.map_append, List.flatten_append]
theorem flatV_one (l : List Vx) : ∀ c ∈ flatV l, c.oneCell' = true := fun c hc => by
  unfold flatV at hc
  obtain ⟨u, hu, hc⟩ := List.mem_flatten.1 hc
  obtain ⟨x, _, rfl⟩ := List.mem_map.1 hu
  simp [encV] at hc
  rcases hc with rfl | rfl <;> rfl
theorem flatV_get {l : List Vx} {k : Nat} (h : k < l.length) : (flatV l)[k * 2]? = some (.int .i64 l[k].1) ∧ (flatV l)[k * 2 + 1]? = some (.int .i64 l[k].2) := by
  have e : l = l.take k ++ l[k] :: l.drop (k + 1) := by rw [← List.drop_eq_getElem_cons h, List.take_append_drop]
  have hl : (flatV (l.take k)).length = k * 2 := by rw [flatV_len, List.length_take]; congr 1; omega
  have e2 : flatV l = flatV (l.take k) ++ (.int .i64 l[k].1 :: .int .i64 l[k].2 :: flatV (l.drop (k + 1))) := by
    conv => lhs; rw [e]
    rw [flatV_app, flatV_cons]
  rw [e2]
  constructor
  · rw [List.getElem?_append_right (by omega)]; simp [hl]
  · rw [List.getElem?_append_right (by omega)]; simp [hl]
def RowAt (w : World) (g cap : Nat) (e : TypeId) (xs : List Vx) : Prop :=
  ∃ tl : List Value, w.heap[g]? = some (.cells (flatV xs ++ tl).toArray e (0, 0)) ∧ xs.length ≤ cap ∧ cap ≤ maxLen ∧ (flatV xs ++ tl).length = cap * 2
abbrev rowV (g cap : Nat) (xs : List Vx) : Value := .slice (some ⟨g, 0, none⟩) xs.length cap
theorem ownK_rowAt {e : TypeId} {I : Nat → Prop} {w : World} {g cap : Nat} {xs : List Vx} : OwnK 0 e 2 RV I w (rowV g cap xs) xs ↔ RowAt w g cap e xs := by
  constructor
  · rintro ⟨us, h1, h2, h0, h3, h4⟩
    have hus := us_encV h1 h4
    subst hus
    obtain ⟨hfl, hv⟩ := h3
    rcases hv with ⟨hz, _⟩ | ⟨g', cap', cur, hv, hB, hg, hc1, hc2, hc3, hc4⟩
    · cases hz
    · cases hv
      refine ⟨cur.toList.drop (xs.length * 2), ?_, hc1, hc2, ?_⟩
      · have : flatV xs ++ cur.toList.drop (xs.length * 2) = cur.toList := by
          unfold flatV; rw [← hc4, List.take_append_drop]
        rw [this]; exact hg
      · have : flatV xs ++ cur.toList.drop (xs.length * 2) = cur.toList := by
          unfold flatV; rw [← hc4, List.take_append_drop]
        rw [this]; simpa using hc3
  · rintro ⟨tl, hg, hc1, hc2, hc3⟩
    refine ⟨xs.map encV, by simp, fun u hu => ?_, by decide, ⟨?_, .inr ⟨g, cap, _, rfl, Nat.zero_le _, hg, hc1, hc2, by simpa using hc3, ?_⟩⟩, fun k h h' => ?_⟩
    · obtain ⟨y, _, rfl⟩ := List.mem_map.1 hu
      exact ⟨rfl, by simp [encV, Value.oneCell']⟩
    · exact flatV_len xs
    · show (flatV xs ++ tl).take (xs.length * 2) = flatV xs
      rw [← flatV_len xs, List.take_left']
      rfl
    · show Value.agg _ = _
      rw [List.getElem_map]
      rfl
theorem heap_setCells_mid {g : Nat} {e : TypeId} {fz : Nat × Nat} : ∀ (vs M A C : List Value) (w : World), M.length = vs.length → w.heap[g]? = some (.cells (A ++ M ++ C).toArray e fz) → (w.setCells g A.length vs).heap[g]? = some (.cells (A ++ vs ++ C).toArray e fz)
  | [], M, A, C, w, h, hg => by
    have : M = [] := List.eq_nil_of_length_eq_zero (by simpa using h)
    subst this; exact hg
  | v :: r, [], A, C, w, h, hg => by simp at h
  | v :: r, m :: M, A, C, w, h, hg => by
    have hg' : (w.setCell ⟨g, A.length, none⟩ v).heap[g]? = some (.cells ((A ++ [v]) ++ M ++ C).toArray e fz) := by
      simp only [World.setCell, Array.getElem?_modify, if_true, hg, Option.map_some]
      simp
    have := heap_setCells_mid r M (A ++ [v]) C _ (by simpa using h) hg'
    rw [World.setCells]
    have e1 : (A ++ [v]).length = A.length + 1 := by simp
    rw [e1] at this
    rw [this]; simp
theorem row_write {w : World} {g cap : Nat} {e : TypeId} {xs : List Vx} (h : RowAt w g cap e xs) (k : Nat) (ys : List Vx) (hk : k + ys.length ≤ xs.length) :
    RowAt (w.setCells g (k * 2) (flatV ys)) g cap e (xs.take k ++ ys ++ xs.drop (k + ys.length)) := by
  obtain ⟨tl, hg, hc1, hc2, hc3⟩ := h
  have e1 : xs = xs.take k ++ (xs.drop k).take ys.length ++ xs.drop (k + ys.length) := by
    rw [List.append_assoc, ← List.drop_drop, List.take_append_drop, List.take_append_drop]
  have hA : (flatV (xs.take k)).length = k * 2 := by rw [flatV_len, List.length_take]; congr 1; omega
  have hM : (flatV ((xs.drop k).take ys.length)).length = (flatV ys).length := by rw [flatV_len, flatV_len, List.length_take, List.length_drop]; congr 1; omega
  have e2 : flatV xs ++ tl = flatV (xs.take k) ++ flatV ((xs.drop k).take ys.length) ++ (flatV (xs.drop (k + ys.length)) ++ tl) := by
    conv => lhs; rw [e1]
    rw [flatV_app, flatV_app]; simp
  rw [e2] at hg
  have := heap_setCells_mid _ _ _ _ w hM hg
  rw [hA] at this
  have hlen : (xs.take k ++ ys ++ xs.drop (k + ys.length)).length = xs.length := by simp; omega
  refine ⟨tl, ?_, by omega, hc2, ?_⟩
  · rw [this, flatV_app, flatV_app]; simp
  · rw [List.length_append, flatV_len] at hc3 ⊢
    rw [hlen]; exact hc3
theorem row_grown {w : World} {g o : Nat} {vs : List Value} : w.grownBy (w.setCells g o vs) (some g) := by
  refine ⟨World.os_setCells w g o vs, ?_, World.output_setCells w g o vs, ?_, fun k hk hne => World.heap_setCells_other w g o vs hk fun e => hne (by rw [e])⟩
  · revert o w
    induction vs with
    | nil => intros; rfl
    | cons v r ih => intro w o; rw [World.setCells]; exact ih
  · revert o w
    induction vs with
    | nil => intros; exact Nat.le_refl _
    | cons v r ih =>
      intro w o; rw [World.setCells]
      refine Nat.le_trans ?_ ih
      simp [World.setCell]
theorem row_cell {w : World} {g cap : Nat} {e : TypeId} {xs : List Vx} (h : RowAt w g cap e xs) (j : Nat) (hj : j < xs.length * 2) : w.cell? ⟨g, j, none⟩ = (flatV xs)[j]? ∧ w.frozen? ⟨g, j, none⟩ = false := by
  obtain ⟨tl, hg, _⟩ := h
  refine ⟨?_, by simp [World.frozen?, hg]⟩
  simp only [World.cell?, hg]
  simp only [Option.isSome_none, Bool.false_eq_true, if_false]
  rw [List.getElem?_toArray, List.getElem?_append_left (by rw [flatV_len]; exact hj)]
theorem row_there {w : World} {g cap : Nat} {e : TypeId} {xs : List Vx} (h : RowAt w g cap e xs) (o n : Nat) (hj : o + n ≤ xs.length * 2) : w.there g o n := fun j hjn => by
  have := row_cell h (o + j) (by omega)
  refine ⟨?_, this.2⟩
  rw [this.1, List.getElem?_eq_getElem (by rw [flatV_len]; omega)]
  rfl
section
variable {P : Program} {ops : Array Oper} {hp : List HObj} {o : Oper} {fr : List Dat} {d : Dat} {Q : Post} {rest : List Oper}
variable {dst : Option Tmp} {ty : TypeId} {ps : String} {af : Array Edge} {g : Option (Nat × Bool)} {b cap : Nat} {e t T : TypeId} {xs : List Vx} {bytes : Nat} {z : Value} {ag : Bool}
abbrev hV (b N cap : Nat) (e : TypeId) (xs : List Vx) : HObj := hRowK (.slice (some ⟨b, 0, none⟩) N cap) e 2 RV xs
theorem hV_row {I : Nat → Prop} {w : World} {N : Nat} : (hV b N cap e xs).ok I w ↔ N = xs.length ∧ RowAt w b cap e xs := by
  constructor
  · intro h
    have hN : N = xs.length := by
      obtain ⟨us, h1, h2, h0, ⟨_, h3⟩, h4⟩ := h
      rcases h3 with ⟨hz, _⟩ | ⟨g, cap, cur, hv, _⟩
      · cases hz
      · cases hv; rfl
    subst hN
    exact ⟨rfl, ownK_rowAt.1 h⟩
  · rintro ⟨rfl, h⟩
    exact ownK_rowAt.2 h
theorem WC.openV {c : Code} {v : Value} (hne : 0 < xs.length) (h : ∀ b cap, v = rowV b cap xs → xs.length ≤ cap → cap ≤ maxLen → WC P Q c fr (hRowK v e 2 RV xs :: hp)) : WC P Q c fr (hRowK v e 2 RV xs :: hp) := WC.of fun P0 B w0 w a hh hf => by
  obtain ⟨us, h1, h2, h0, ⟨_, h3⟩, h4⟩ := hh.ok (hRowK v e 2 RV xs) (by simp)
  rcases h3 with ⟨_, hz⟩ | ⟨g, cap, cur, hv, hB, hg, hc1, hc2, _⟩
  · omega
  · exact (h g cap hv hc1 hc2).on hh hf
theorem SY.ixO {x i : Operand} {n m off k : Nat} {j : Int} (E : ElT P t e 2 z bytes ag) (hx : OpD fr x (dX (.slice (some ⟨b, off, none⟩) n m))) (hi : OpD fr i (dI j)) (hj : j = (k : Int)) (hk : k < n) :
    SY P ops hp { dst := dst, op := .indexAddr t x i, type := ty, pos := ps, after := af, guard := g } fr (dX (.pointer (some ⟨b, off + k * 2, none⟩))) := SY.val fun {I w a} ho => by
  have h1 : a.eval x = _ := hx.get (by simp [Op.operands]) ho
  have h2 : a.eval i = _ := hi.get (by simp [Op.operands]) ho
  refine ⟨_, ?_, rfl⟩
  unfold execOp
  simp only [h1, h2, hj, Sem.run_bind, run_indexAt (w := w) E b off n m k .i64 hk, Result.andThen_ok, Sem.run_pure]
theorem SY.loadO {x : Operand} {j k : Nat} (T' : TyI P T 2 true) (hx : OpD fr x (dX (.pointer (some ⟨b, j, none⟩)))) {N : Nat} (hm : hV b N cap e xs ∈ hp) (hj : j = k * 2) (hk : k < xs.length) :
    SY P ops hp { dst := dst, op := .load T x, type := ty, pos := ps, after := af, guard := g } fr (dS RV xs[k]) := SY.valE fun {P0 B w0 w a} hh ho => by
  have h1 : a.eval x = _ := hx.get (by simp [Op.operands]) ho
  have hrow := (hV_row.1 (hh.ok _ hm)).2
  subst hj
  have hc : Cells (fun _ => True) w b (k * 2) 2 true (.agg (encV xs[k]).toArray) := by
    refine ⟨trivial, encV xs[k], rfl, by decide, by simp [encV, Value.oneCell'], fun i c hc => ?_, rfl⟩
    have hi : i < 2 := (List.getElem?_eq_some_iff.1 hc).1
    have hcell := (row_cell hrow (k * 2 + i) (by omega)).1
    rw [hcell]
    match i, hi, hc with
    | 0, _, hc => cases hc; exact (flatV_get hk).1
    | 1, _, hc => cases hc; exact (flatV_get hk).2
  refine ⟨_, w, ?_, Ext.refl _, rfl⟩
  unfold execOp
  simp only [h1, Sem.run_bind, run_loadC T' hc, Result.andThen_ok, Sem.run_pure]
  rfl
theorem WL.writeO {o : Oper} {k N : Nat} {ys : List Vx} (hg : o.guard = none) (hk : k + ys.length ≤ xs.length) (hrun : ∀ {I : Nat → Prop} {w : World} {a : Act}, Fr I w a fr → RowAt w b cap e xs → ∃ out : Next, (out = .skip ∨ ∃ r, out = .value r) ∧ (execOp a.eval o).run P w = .ok out (w.setCells b (k * 2) (flatV ys)))
    (h : WL P ops Q rest (setD fr o.dst dA) (hV b N cap e (xs.take k ++ ys ++ xs.drop (k + ys.length)) :: hp)) : WL P ops Q (o :: rest) fr (hV b N cap e xs :: hp) := by
  refine WL.of fun P0 B w0 w a hh hf => ?_
  obtain ⟨hN, hrow⟩ := hV_row.1 (hh.ok (hV b N cap e xs) (by simp))
  obtain ⟨out, ho, hr⟩ := hrun hf hrow
  have hgr : w.grownBy (w.setCells b (k * 2) (flatV ys)) (hV b N cap e xs).blk := row_grown
  have hok : (hV b N cap e (xs.take k ++ ys ++ xs.drop (k + ys.length))).ok (fun j => Imm P0 B (hV b N cap e xs :: hp) j ∧ j < w.heap.size) (w.setCells b (k * 2) (flatV ys)) :=
    hV_row.2 ⟨by rw [hN]; simp; omega, row_write hrow k ys hk⟩
  refine wpList_plain hg fun K hK => ?_
  unfold Oper.wp
  rw [hr]
  have fin : ∀ r : Value, K (a.put o.dst r) (w.setCells b (k * 2) (flatV ys)) := fun r => hK _ _ (h.on (hh.write hgr (.inl rfl) hok) (Fr.put (hf.mono fun _ _ hd => Hp.written (o' := hV b N cap e (xs.take k ++ ys ++ xs.drop (k + ys.length))) hgr (.inl rfl) hd) (d := dA) trivial))
  rcases ho with rfl | ⟨r, rfl⟩
  · exact fin undef
  · exact fin r
theorem WL.storeO {p : Tmp} {x : Operand} {j k N : Nat} {y : Vx} (T' : TyI P T 2 true) (hp0 : OpD fr (.tmp p) (dX (.pointer (some ⟨b, j, none⟩)))) (hx : OpD fr x (dS RV y)) (hj : j = k * 2) (hk : k < xs.length)
    (h : WL P ops Q rest (setD fr dst dA) (hV b N cap e (xs.set k y) :: hp)) : WL P ops Q ({ dst := dst, op := .store T (.tmp p) x, type := ty, pos := ps, after := af, guard := none } :: rest) fr (hV b N cap e xs :: hp) := by
  refine WL.writeO (k := k) (ys := [y]) rfl (by simp; omega) (fun {I w a} hf hrow => ⟨.skip, .inl rfl, ?_⟩) ?_
  · have h1 : a.eval (.tmp p) = _ := hp0.ev hf
    have h2 : a.eval x = .agg #[.int .i64 y.1, .int .i64 y.2] := hx.ev hf
    subst hj
    have := run_storeVar_mid (P := P) w b (k * 2) T #[.int .i64 y.1, .int .i64 y.2] (row_there hrow _ _ (by simp; omega)) (by simpa using T'.size) (by simp [Value.oneCell'])
    unfold execOp
    simp only [h1, h2, Instr.storeAt, Instr.sureAddr, Sem.run_bind, Sem.run_pure, Result.andThen_ok, this]
    rfl
  · have e1 : xs.take k ++ [y] ++ xs.drop (k + [y].length) = xs.set k y := by
      rw [List.set_eq_take_append_cons_drop, if_pos hk]; simp
    rw [e1]; exact h
theorem WL.clearO {x : Operand} {off n m k N : Nat} (hu : P.underlying t = some (.slice e)) (hz : ∀ w, (zeroValue e).run P w = .ok (.agg #[.int .i64 0, .int .i64 0]) w) (hx : OpD fr x (dX (.slice (some ⟨b, off, none⟩) n m))) (hj : off = k * 2) (hn : 0 < n) (hk : k + n = xs.length)
    (h : WL P ops Q rest (setD fr dst dA) (hV b N cap e (xs.take k ++ List.replicate n (0, 0)) :: hp)) : WL P ops Q ({ dst := dst, op := .call { callee := .builtin .clear, args := #[x], argTypes := #[t] }, type := ty, pos := ps, after := af, guard := none } :: rest) fr (hV b N cap e xs :: hp) := by
  refine WL.writeO (k := k) (ys := List.replicate n (0, 0)) rfl (by simp; omega) (fun {I w a} hf hrow => ⟨.value (.tuple #[]), .inr ⟨_, rfl⟩, ?_⟩) ?_
  · have h1 : a.eval x = _ := hx.ev hf
    subst hj
    have hzc : (Builtin.zeroCells #[Value.int .i64 0, .int .i64 0] n).toList = flatV (List.replicate n (0, 0)) := by
      have e1 : flatV (List.replicate n (0, 0)) = List.replicate (n * 2) (.int .i64 0) := by
        clear h hn hk hx h1
        induction n with
        | zero => rfl
        | succ n ih => rw [List.replicate_succ, flatV_cons, ih, Nat.succ_mul, List.replicate_succ, List.replicate_succ]
      rw [e1]
      simp only [Builtin.zeroCells]
      apply List.ext_getElem
      · simp
      · intro i h1 h2
        have : i % 2 < 2 := Nat.mod_lt _ (by decide)
        simp
        rcases (by omega : i % 2 = 0 ∨ i % 2 = 1) with h | h <;> simp [h]
    have hst := run_storeCells_cells (P := P) b (k * 2) (flatV (List.replicate n (0, 0))) 0 w (fun j hj => by
      rw [flatV_len, List.length_replicate] at hj
      exact ((row_there hrow (k * 2) (n * 2) (by omega)) j hj).1) (fun j hj => by
      rw [flatV_len, List.length_replicate] at hj
      exact ((row_there hrow (k * 2) (n * 2) (by omega)) j hj).2) (flatV_one _)
    obtain ⟨m', rfl⟩ : ∃ m, n = m + 1 := ⟨n - 1, by omega⟩
    unfold execOp
    simp [resolve, invoke, builtin, h1, Builtin.clear_, run_underlying hu, hz, Value.cells, hzc, hst]
  · have e1 : xs.take k ++ List.replicate n (0, 0) ++ xs.drop (k + (List.replicate n ((0, 0) : Vx)).length) = xs.take k ++ List.replicate n (0, 0) := by
      rw [List.length_replicate, hk, List.drop_length, List.append_nil]
    rw [e1]; exact h
theorem SY.fromO {x y : Operand} {off n m l : Nat} {j : Int} (E : ElT P t e 2 z bytes ag) (hx : OpD fr x (dX (.slice (some ⟨b, off, none⟩) n m))) (hy : OpD fr y (dI j)) (hj : j = (l : Int)) (hl : l < n) (hm : n ≤ m) :
    SY P ops hp { dst := dst, op := .slice t x (some y) none none, type := ty, pos := ps, after := af, guard := g } fr (dX (.slice (some ⟨b, off + l * 2, none⟩) (n - l) (m - l))) := SY.val fun {I w a} ho => by
  have h1 : a.eval x = _ := hx.get (by simp [Op.operands]) ho
  have h2 : a.eval y = _ := hy.get (by simp [Op.operands]) ho
  refine ⟨_, ?_, rfl⟩
  have hr := run_slice (w := w) (ad := some ⟨b, off, none⟩) (len := n) (cap := m) (lo := some (.int .i64 (l : Int))) (hi := none) (l := l) (h := n) E (.inr ⟨_, rfl⟩) (.inl ⟨rfl, rfl⟩) (by omega) hm
  rw [if_neg (by omega)] at hr
  unfold execOp
  simp only [h1, h2, hj, Option.map_none, Option.map_some, Sem.run_bind, hr, Result.andThen_ok, Sem.run_pure]
  simp [Addr.add_lit]
theorem SY.uptoO {x y : Operand} {off n m l : Nat} {j : Int} (E : ElT P t e 2 z bytes ag) (hx : OpD fr x (dX (.slice (some ⟨b, off, none⟩) n m))) (hy : OpD fr y (dI j)) (hj : j = (l : Int)) (hl : l ≤ n) (hm : n ≤ m) (h0 : 0 < m) :
    SY P ops hp { dst := dst, op := .slice t x none (some y) none, type := ty, pos := ps, after := af, guard := g } fr (dX (.slice (some ⟨b, off, none⟩) l m)) := SY.val fun {I w a} ho => by
  have h1 : a.eval x = _ := hx.get (by simp [Op.operands]) ho
  have h2 : a.eval y = _ := hy.get (by simp [Op.operands]) ho
  refine ⟨_, ?_, rfl⟩
  have hr := run_slice (w := w) (ad := some ⟨b, off, none⟩) (len := n) (cap := m) (lo := none) (hi := some (.int .i64 (l : Int))) (l := 0) (h := l) E (.inl ⟨rfl, rfl⟩) (.inr ⟨_, rfl⟩) (by omega) (by omega)
  rw [if_neg (by omega)] at hr
  unfold execOp
  simp only [h1, h2, hj, Option.map_none, Option.map_some, Sem.run_bind, hr, Result.andThen_ok, Sem.run_pure]
  simp [Addr.add_lit]
theorem WC.cutO {c : Code} {N k : Nat} (hk : k ≤ xs.length) (h : WC P Q c fr (hV b k cap e (xs.take k) :: hp)) : WC P Q c fr (hV b N cap e xs :: hp) := WC.of fun P0 B w0 w a hh hf => by
  obtain ⟨hN, tl, hg, hc1, hc2, hc3⟩ := hV_row.1 (hh.ok (hV b N cap e xs) (by simp))
  have hgr : w.grownBy w (hV b N cap e xs).blk := ⟨rfl, rfl, rfl, Nat.le_refl _, fun _ _ _ => rfl⟩
  have e1 : flatV xs ++ tl = flatV (xs.take k) ++ (flatV (xs.drop k) ++ tl) := by rw [← List.append_assoc, ← flatV_app, List.take_append_drop]
  have hok : (hV b k cap e (xs.take k)).ok (fun j => Imm P0 B (hV b N cap e xs :: hp) j ∧ j < w.heap.size) w :=
    hV_row.2 ⟨by simp; omega, flatV (xs.drop k) ++ tl, by rw [← e1]; exact hg, by simp; omega, hc2, by rw [← e1]; exact hc3⟩
  exact h.on (hh.write hgr (.inl rfl) hok) (hf.mono fun _ _ hd => Hp.written (o' := hV b k cap e (xs.take k)) hgr (.inl rfl) hd)
end
end Go.Proofs.YtjbepoofigokjaaGreat
namespace Go.Proofs.YtjbepoofigokjaaGreat
def SortV (xs : List Vx) : Prop := xs.Pairwise fun a b => ¬ cmpV b a < 0
def GoodC (xs : List Vx) (m : Nat) (zs : List Vx) : Prop := Asc zs ∧ (∀ v, v ∈ zs ↔ v ∈ xs.take m) ∧ zs.getLast? = xs[m - 1]?
theorem asc_last {zs : List Vx} {l : Vx} (h : Asc zs) (hl : zs.getLast? = some l) : ∀ a ∈ zs, a = l ∨ cmpV a l < 0 := by
  obtain ⟨ys, rfl⟩ := List.getLast?_eq_some_iff.1 hl
  intro a ha
  rcases List.mem_append.1 ha with ha | ha
  · exact .inr ((List.pairwise_append.1 h).2.2 a ha l (by simp))
  · exact .inl (by simpa using ha)
theorem good_start {xs : List Vx} (h : 1 ≤ xs.length) : GoodC xs 1 (xs.take 1) := by
  match xs, h with
  | x :: l, _ => exact ⟨by simp [Asc], fun v => Iff.rfl, by simp⟩
theorem good_push {xs zs : List Vx} {m : Nat} (hs : SortV xs) (h : GoodC xs m zs) (h1 : 1 ≤ m) (h2 : m < xs.length) (hne : xs[m] ≠ xs[m - 1]'(by omega)) : GoodC xs (m + 1) (zs ++ [xs[m]]) := by
  obtain ⟨ha, hm, hl⟩ := h
  rw [List.getElem?_eq_getElem (by omega : m - 1 < xs.length)] at hl
  have hlt : cmpV (xs[m - 1]'(by omega)) xs[m] < 0 := by
    have h3 := (List.pairwise_iff_getElem.1 hs) (m - 1) m (by omega) h2 (by omega)
    rcases cmpV_cases (xs[m - 1]'(by omega)) xs[m] with k | k | k
    · omega
    · omega
    · exact absurd k.2.2.symm hne
  refine ⟨List.pairwise_append.2 ⟨ha, by simp, fun a haz b hb => ?_⟩, fun v => ?_, by simp [h2]⟩
  · have hb' : b = xs[m] := by simpa using hb
    subst hb'
    rcases asc_last ha hl a haz with rfl | h4
    · exact hlt
    · exact cmpV_trans h4 hlt
  · rw [List.mem_append, hm, mem_take_snoc h2]; simp
theorem good_skip {xs zs : List Vx} {m : Nat} (h : GoodC xs m zs) (h1 : 1 ≤ m) (h2 : m < xs.length) (he : xs[m] = xs[m - 1]'(by omega)) : GoodC xs (m + 1) zs := by
  obtain ⟨ha, hm, hl⟩ := h
  refine ⟨ha, fun v => ?_, ?_⟩
  · rw [hm, mem_take_snoc h2]
    refine ⟨.inl, fun h => h.elim id fun h => ?_⟩
    rw [h, he, List.mem_take_iff_getElem]
    exact ⟨m - 1, by omega, rfl⟩
  · rw [hl, Nat.add_sub_cancel, List.getElem?_eq_getElem h2, List.getElem?_eq_getElem (by omega), he]
theorem good_end {xs zs : List Vx} {m : Nat} (h : GoodC xs m zs) (h2 : xs.length ≤ m) : Asc zs ∧ ∀ v, v ∈ zs ↔ v ∈ xs := ⟨h.1, fun v => by rw [h.2.1, List.take_of_length_le h2]⟩
end Go.Proofs.YtjbepoofigokjaaGreat
namespace Go.Proofs.YtjbepoofigokjaaGreat
open Go.RowKit
structure InC (P : Program) (f : FuncId) (ds : List Dat) (hp1 : List HObj) (K : Dat → List HObj → Prop) : Prop where
  out : ∀ hp : List HObj, ∃ (fn : Func) (c : Code) (t : Tmp), P.funcs[f]? = some fn ∧ fn.body = some c ∧ fn.results = #[.tmp t] ∧ ∀ gh : HObj, gh.blk = none → WC P (finI t K gh hp) c (ds ++ List.replicate (fn.ntmps - ds.length) (dX undef)) (hp1 ++ gh :: hp)
section
variable {P : Program} {ops : Array Oper} {hp : List HObj} {o : Oper} {fr : List Dat} {d : Dat} {Q : Post} {rest : List Oper}
variable {dst : Option Tmp} {ty : TypeId} {ps : String} {af : Array Edge} {g : Option (Nat × Bool)}
theorem InC.intro {f : FuncId} {fn : Func} {c : Code} {t : Tmp} {ds : List Dat} {hp1 : List HObj} {K : Dat → List HObj → Prop} (hf : P.funcs[f]? = some fn) (hb : fn.body = some c) (hr : fn.results = #[.tmp t])
    (h : ∀ (hp : List HObj) (gh : HObj), gh.blk = none → WC P (finI t K gh hp) c (ds ++ List.replicate (fn.ntmps - ds.length) (dX undef)) (hp1 ++ gh :: hp)) : InC P f ds hp1 K := ⟨fun hp => ⟨fn, c, t, hf, hb, hr, h hp⟩⟩
theorem WL.inC {f : FuncId} {args : Array Operand} {ats : Array TypeId} {ds : List Dat} {hp1 : List HObj} {K : Dat → List HObj → Prop} (hF : InC P f ds hp1 K) (he : Enters P f) (ha : ArgsD fr args.toList ds)
    (hK : ∀ d' hp2, K d' hp2 → WL P ops Q rest (setD fr dst d') (hp2 ++ hp)) :
    WL P ops Q ({ dst := dst, op := .call { callee := .value (.func f), args := args, argTypes := ats }, type := ty, pos := ps, after := af, guard := none } :: rest) fr (hp1 ++ hp) := by
  obtain ⟨fn, c, t, hf, hb, hr, h⟩ := hF.out hp
  exact WL.inline hp1 K hf hb hr he ha h hK
theorem WL.inRow {f : FuncId} {args : Array Operand} {ats : Array TypeId} {ds : List Dat} {o1 : HObj} {e : TypeId} {n : Nat} {α : Type} {R : Rel α} {_gR : Good R} {p : List α → Prop} (hF : InC P f ds [o1] fun d' hp2 => ∃ v xs, p xs ∧ d' = dX v ∧ hp2 = [hRowK v e n R xs]) (he : Enters P f) (ha : ArgsD fr args.toList ds)
    (hK : ∀ v xs, p xs → WL P ops Q rest (setD fr dst (dX v)) (hRowK v e n R xs :: hp)) :
    WL P ops Q ({ dst := dst, op := .call { callee := .value (.func f), args := args, argTypes := ats }, type := ty, pos := ps, after := af, guard := none } :: rest) fr (o1 :: hp) :=
  WL.inC (hp1 := [o1]) hF he ha fun d' hp2 ⟨v, xs, hp, hd, hh⟩ => by subst hd; subst hh; exact hK v xs hp
theorem WL.nilRowK {α : Type} (e : TypeId) (n : Nat) (hn : 0 < n) (R : Rel α) [Good R] (h : WL P ops Q rest fr (hRowK (.slice none 0 0) e n R ([] : List α) :: hp)) : WL P ops Q rest fr hp := WL.of fun _ _ _ _ _ hh hf =>
  h.on (hh.push (Ext.refl _) (by simp [hRowK, Value.ownBlock]) (OwnK.nil hn)) (hf.mono fun _ _ hd => Hp.pushed (Ext.refl _) (by simp [hRowK, Value.ownBlock]) hd)
theorem WL.outRow {f : FuncId} {args : Array Operand} {ats : Array TypeId} {ds : List Dat} {e : TypeId} {n : Nat} {α : Type} {R : Rel α} {_gR : Good R} {xs : List α} (hn : 0 < n) (hF : InC P f ds [] fun d' hp2 => ∃ v, d' = dX v ∧ (hp2 = [hRowK v e n R xs] ∨ v = .slice none 0 0 ∧ xs = [] ∧ hp2 = [])) (he : Enters P f) (ha : ArgsD fr args.toList ds)
    (hK : ∀ v, WL P ops Q rest (setD fr dst (dX v)) (hRowK v e n R xs :: hp)) :
    WL P ops Q ({ dst := dst, op := .call { callee := .value (.func f), args := args, argTypes := ats }, type := ty, pos := ps, after := af, guard := none } :: rest) fr hp :=
  WL.inC (hp1 := []) hF he ha fun d' hp2 ⟨v, hd, hh⟩ => by
    subst hd
    rcases hh with rfl | ⟨rfl, rfl, rfl⟩
    · exact hK v
    · exact WL.nilRowK e n hn R (hK _)
end
end Go.Proofs.YtjbepoofigokjaaGreat
namespace Go.Proofs.YtjbepoofigokjaaGreat
open Go.RowKit
set_option maxHeartbeats 2000000
set_option linter.unusedSimpArgs false

theorem nil_K {xs : List Vx} {I : Nat → Prop} {w : World} {v : Value} (h : (dS Verts xs).rd I w v) : ∃ a m c, v = .slice a m c ∧ (a = none → m = 0) := by
  obtain ⟨ad, cap, rfl, h1, h2, h0, h3⟩ := (h : ArrK 2 RV I w v xs)
  refine ⟨_, _, _, rfl, fun hn => ?_⟩
  rcases Nat.eq_zero_or_pos xs.length with hz | hz
  · exact hz
  · obtain ⟨us, b, off, _, _, _, had, _, _⟩ := h3 0 hz
    rw [hn] at had; cases had
theorem clone_k (xs : List Vx) (hl : xs.length ≤ 1000) : InC Tryz.prog 89 [dS Verts xs] [] fun d' hp2 => ∃ v, d' = dX v ∧ (hp2 = [hRowK v 63 2 RV xs] ∨ v = .slice none 0 0 ∧ xs = [] ∧ hp2 = []) := by
  (refine InC.intro Tryz.func89 rfl rfl (fun hp gh hgh => ?_); simp only [Tryz.ntmps89, List.length_cons, List.length_nil, Nat.reduceAdd, Nat.reduceSub, List.replicate_succ, List.replicate_zero, List.cons_append, List.nil_append])
  ((repeat' (first |  (refine WL.openE 4 rfl fun b hb => ?_; dsimp only [z0, z1]) | (apply WL.opN; exact yF; dsimp only [setD, z0, z1]) | refine WL.nil ?_ | refine WC.seqK fun Kx hK => ?_ | (refine hK _ _ ?_; clear hK) | refine WC.region ?_ |  (apply WL.build0K elV RV (by decide); (intro _; dsimp only [setD, z0, z1]); all_goals (try infer_instance)) | ((first | apply WL.appK | apply WL.app1); (exact eD); exact OpD.t rfl; (exact oD); decide; (exact lD); (intro _; dsimp only [setD, z0, z1]); all_goals (try infer_instance)) | (apply WL.opN; (focus ((first | (apply SY.eqNil; exact OpD.t rfl; (exact fun _ _ _ h => nil_K h); exact len_K; exact eqNilV) | fail); all_goals infer_instance)); dsimp only [setD, z0, z1]) | (apply WC.cond; (exact oD); all_goals (intro h; try exact xD)) | refine WC.skip ?_ | refine WC.ret ?_ | refine ThenD.r ?_)); all_goals (first | ((repeat clear hK); (repeat clear Kx))))
  · exact ⟨trivial, _, [], rfl, rfl, _, rfl, .inr ⟨rfl, hb h, rfl⟩⟩
  · exact ⟨trivial, _, [_], rfl, rfl, _, rfl, .inl (by rw [List.nil_append])⟩
theorem WL.cutO {P : Program} {ops : Array Oper} {hp : List HObj} {fr : List Dat} {Q : Post} {rest : List Oper} {b cap N k : Nat} {e : TypeId} {xs : List Vx} (hk : k ≤ xs.length) (h : WL P ops Q rest fr (hV b k cap e (xs.take k) :: hp)) : WL P ops Q rest fr (hV b N cap e xs :: hp) := WL.of fun P0 B w0 w a hh hf => by
  obtain ⟨hN, tl, hg, hc1, hc2, hc3⟩ := hV_row.1 (hh.ok (hV b N cap e xs) (by simp))
  have hgr : w.grownBy w (hV b N cap e xs).blk := ⟨rfl, rfl, rfl, Nat.le_refl _, fun _ _ _ => rfl⟩
  have e1 : flatV xs ++ tl = flatV (xs.take k) ++ (flatV (xs.drop k) ++ tl) := by rw [← List.append_assoc, ← flatV_app, List.take_append_drop]
  have hok : (hV b k cap e (xs.take k)).ok (fun j => Imm P0 B (hV b N cap e xs :: hp) j ∧ j < w.heap.size) w :=
    hV_row.2 ⟨by simp; omega, flatV (xs.drop k) ++ tl, by rw [← e1]; exact hg, by simp; omega, hc2, by rw [← e1]; exact hc3⟩
  exact h.on (hh.write hgr (.inl rfl) hok) (hf.mono fun _ _ hd => Hp.written (o' := hV b k cap e (xs.take k)) hgr (.inl rfl) hd)
theorem WL.uptoC {P : Program} {ops : Array Oper} {hp : List HObj} {fr : List Dat} {Q : Post} {rest : List Oper} {dst : Option Tmp} {ty : TypeId} {ps : String} {af : Array Edge} {b cap N l bytes : Nat} {e t : TypeId} {xs : List Vx} {z : Value} {ag : Bool} {x y : Operand} {j : Int}
    (E : ElT P t e 2 z bytes ag) (hx : OpD fr x (dX (.slice (some ⟨b, 0, none⟩) N cap))) (hy : OpD fr y (dI j)) (hj : j = (l : Int)) (hl : l ≤ N) (hm : N ≤ cap) (h0 : 0 < cap) (hk : l ≤ xs.length)
    (h : WL P ops Q rest (setD fr dst (dX (.slice (some ⟨b, 0, none⟩) l cap))) (hV b l cap e (xs.take l) :: hp)) : WL P ops Q ({ dst := dst, op := .slice t x none (some y) none, type := ty, pos := ps, after := af, guard := none } :: rest) fr (hV b N cap e xs :: hp) :=
  WL.op rfl (SY.uptoO E hx hy hj hl hm h0) (WL.cutO hk h)
set_option maxHeartbeats 4000000 in
theorem compact_k (xs : List Vx) (v : Value) (hs : SortV xs) (hl : xs.length ≤ 1000) : InC Tryz.prog 32 [dX v] [hRowK v 63 2 RV xs] fun d' hp2 => ∃ v zs, (Asc zs ∧ ∀ u, u ∈ zs ↔ u ∈ xs) ∧ d' = dX v ∧ hp2 = [hRowK v 63 2 RV zs] := by
  (refine InC.intro Tryz.func32 rfl rfl (fun hp gh hgh => ?_); simp only [Tryz.ntmps32, List.length_cons, List.length_nil, Nat.reduceAdd, Nat.reduceSub, List.replicate_succ, List.replicate_zero, List.cons_append, List.nil_append])
  rcases Nat.lt_or_ge xs.length 2 with hx | hx
  · have ha : Asc xs := by
      match xs, hx with
      | [], _ => simp [Asc]
      | [x], _ => simp [Asc]
      | x :: y :: l, hx => simp at hx; omega
    ((repeat' (first | ((first | apply WL.opN | apply WD.opN); exact yF; dsimp only [setD, z0, z1]) | refine WL.nil ?_ | refine WC.seqK fun Kx hK => ?_ | (refine hK _ _ ?_; clear hK) | refine WC.region ?_ | ((first | apply WL.opN | apply WD.opN); (focus ((first | exact yLss | exact yLen | fail); all_goals infer_instance)); dsimp only [setD, z0, z1]) | (apply WC.condD; (exact oD); all_goals (intro h; try exact xD)) | refine WC.ret ?_ | refine ThenD.r ?_)); all_goals (first | ((repeat clear hK); (repeat clear Kx))))
    exact ⟨trivial, _, [_], rfl, rfl, _, xs, ⟨ha, fun _ => Iff.rfl⟩, rfl, rfl⟩
  refine WC.openV (by omega) fun b cap hv hc1 hc2 => ?_
  subst hv
  (repeat' (first | ((first | apply WL.opN | apply WD.opN); exact yF; dsimp only [setD, z0, z1]) | refine WL.nil ?_ | refine WC.seqK fun Kx hK => ?_ | (refine hK _ _ ?_; clear hK) | refine WC.region ?_ | ((first | apply WL.opN | apply WD.opN); (focus ((first | exact yLss | exact yLen | fail); all_goals infer_instance)); dsimp only [setD, z0, z1]) | (apply WC.condD; (exact oD); all_goals (intro h; try exact xD)) | refine WC.skip ?_ | refine WC.block ?_))
  simp only [maxLen] at hc2
  (refine WC.loopU (X := Nat) (fun k => [(3, dI (k : Int)), (2, dA), (4, dA), (5, dA), (10, dA), (11, dA), (12, dA), (13, dA), (14, dA), (15, dA), (16, dA), (17, dA), (18, dA), (19, dA), (20, dA), (21, dA), (22, dA), (23, dA), (24, dA), (25, dA), (26, dA), (27, dA), (28, dA), (29, dA), (30, dA), (31, dA), (32, dA), (33, dA), (34, dA), (35, dA), (36, dA), (37, dA), (38, dA), (39, dA), (40, dA), (41, dA), (42, dA), (43, dA), (44, dA), (45, dA), (46, dA), (47, dA), (48, dA), (49, dA), (50, dA), (51, dA), (52, dA), (53, dA), (54, dA), (55, dA), (56, dA), (57, dA), (58, dA), (59, dA)]) (fun k => (hV b xs.length cap 63 xs :: gh :: hp)) (fun k => xs.length - k) (fun k => 1 ≤ k ∧ k ≤ xs.length ∧ GoodC xs k (xs.take k)) 1 ?start ?frame0 ?objs0 ?round)
  case start => exact ⟨Nat.le_refl _, by omega, good_start (by omega)⟩
  case frame0 => ((try dsimp only [upds, z0, z1]); repeat (first | exact LeF.nil | refine LeF.co (k := ?_)))
  case objs0 => rfl
  case round =>
    rintro k ⟨h1, h2, h3⟩
    dsimp only [upds, z0, z1]
    ((repeat' (first | ((first | apply WL.opN | apply WD.opN); exact yF; dsimp only [setD, z0, z1]) | refine WL.nil ?_ | refine WD.nil ?_ | refine WC.seqK fun Kx hK => ?_ | (refine hK _ _ ?_; clear hK) | (refine Kont.skip ?_; clear hK) | refine WC.region ?_ | (apply WC.draw; kernel_rfl; kernel_rfl) | ((first | apply WL.opN | apply WD.opN); (focus ((first | (apply SY.ixO (k := k) elV; exact OpD.t rfl; exact OpD.t rfl; rfl; omega) | (apply SY.ixO (k := k - 1) elV; exact OpD.t rfl; exact OpD.t rfl; omega; omega) | (apply SY.loadO (k := k) tyV; exact OpD.t rfl; exact .head _; omega; omega) | (apply SY.loadO (k := k - 1) tyV; exact OpD.t rfl; exact .head _; omega; omega) | (apply SY.fromO (l := k) elV; exact OpD.t rfl; exact OpD.t rfl; rfl; omega; omega) | exact yLss | exact yEql | exact yAdd | exact ySub | exact yLen | fail); all_goals infer_instance)); dsimp only [setD, z0, z1]) | (apply WC.condD; (exact oD); all_goals (intro h; try exact xD)) | refine WC.skip ?_ | refine WC.ret ?_ | refine WC.exit ?_ | refine WC.block ?_ | refine ThenD.n ?_)); all_goals (first | refine WC.id ?_ | ((repeat clear hK); (repeat clear Kx))))
    · have hk : k < xs.length := by omega
      have hg := good_skip h3 h1 hk h
      (refine WC.loopU (X := Nat × Nat × List Vx) (fun x => [(3, dI (x.2.1 : Int)), (5, dI (x.1 : Int)), (29, dA), (30, dA), (31, dA), (32, dA), (33, dA), (34, dA), (35, dA), (36, dA), (37, dA), (38, dA), (39, dA), (40, dA), (41, dA), (42, dA), (43, dA), (44, dA), (45, dA), (46, dA), (47, dA), (48, dA), (49, dA), (50, dA), (51, dA), (52, dA), (53, dA)]) (fun x => (hV b xs.length cap 63 x.2.2 :: gh :: hp)) (fun x => xs.length - k - x.1) (fun x => 1 ≤ x.1 ∧ k + x.1 ≤ xs.length ∧ x.2.1 + 1 ≤ k + x.1 ∧ x.2.2.length = xs.length ∧ GoodC xs (k + x.1) (x.2.2.take x.2.1) ∧ x.2.2.drop (k + x.1 - 1) = xs.drop (k + x.1 - 1)) (1, k, xs) ?start ?frame0 ?objs0 ?round)
      case start => exact ⟨Nat.le_refl _, by omega, Nat.le_refl _, rfl, hg, rfl⟩
      case frame0 => ((try dsimp only [upds, z0, z1]); repeat (first | exact LeF.nil | refine LeF.co (k := ?_)))
      case objs0 => rfl
      case round =>
        rintro ⟨m, i, ys⟩ ⟨q1, q2, q3, q4, q5, q6⟩
        dsimp only [upds, z0, z1]
        simp only at q1 q2 q3 q4 q5 q6
        have hget : ∀ (j : Nat) (hj : k + m - 1 ≤ j) (hj' : j < xs.length), ys[j]'(by omega) = xs[j] := fun j hj hj' => by
          have e1 := congrArg (fun l => l[j - (k + m - 1)]?) q6
          simp only [List.getElem?_drop] at e1
          rw [show k + m - 1 + (j - (k + m - 1)) = j by omega, List.getElem?_eq_getElem (by omega), List.getElem?_eq_getElem hj'] at e1
          exact Option.some.inj e1
        ((repeat' (first | ((first | apply WL.opN | apply WD.opN); exact yF; dsimp only [setD, z0, z1]) | refine WL.nil ?_ | refine WD.nil ?_ | refine WC.seqK fun Kx hK => ?_ | (refine hK _ _ ?_; clear hK) | (refine Kont.skip ?_; clear hK) | refine WC.region ?_ | (apply WC.draw; kernel_rfl; kernel_rfl) |  (apply WL.storeO (k := i) tyV; exact OpD.t rfl; exact OpD.t rfl; omega; omega; dsimp only [setD, z0, z1]) |  (apply WL.clearO (k := i) (n := xs.length - i) Tryz.underlying34 Tryz.zeroValue63; exact OpD.t rfl; omega; omega; omega; dsimp only [setD, z0, z1]) |  (apply WL.uptoC (l := i) elV; exact OpD.t rfl; exact OpD.t rfl; rfl; omega; omega; omega; (simp; omega); dsimp only [setD, z0, z1]) | ((first | apply WL.opN | apply WD.opN); (focus ((first | (apply SY.ixO (k := m) elV; exact OpD.t rfl; exact OpD.t rfl; rfl; omega) | (apply SY.ixO (k := m - 1) elV; exact OpD.t rfl; exact OpD.t rfl; omega; omega) | (apply SY.ixO (k := i) elV; exact OpD.t rfl; exact OpD.t rfl; rfl; omega) | (apply SY.loadO (k := k + m) tyV; exact OpD.t rfl; exact .head _; omega; omega) | (apply SY.loadO (k := k + m - 1) tyV; exact OpD.t rfl; exact .head _; omega; omega) | (apply SY.fromO (l := i) elV; exact OpD.t rfl; exact OpD.t rfl; rfl; omega; omega) | exact yLss | exact yNeq | exact yAdd | exact ySub | exact yLen | fail); all_goals infer_instance)); dsimp only [setD, z0, z1]) | (apply WC.condD; (exact oD); all_goals (intro h; try exact xD)) | (apply WC.condN; (exact oD); all_goals (intro h; try exact xD)) | refine WC.skip ?_ | refine WC.ret ?_ | refine WC.exit ?_ | refine WC.block ?_ | refine ThenD.n ?_ | refine ThenD.r ?_ | refine InBlockD.r ?_)); all_goals (first | ((repeat clear hK); (repeat clear Kx))))
        · have hkm : k + m < xs.length := by omega
          have e1 : ys[k + m]'(by omega) = xs[k + m] := hget _ (by omega) hkm
          have e2 : ys[k + m - 1]'(by omega) = xs[k + m - 1] := hget _ (by omega) (by omega)
          rw [e1, e2] at h
          rw [e1]
          (refine ⟨(m + 1, i + 1, ys.set i xs[k + m]), ?_, by first | omega | (simp only; omega), rfl, ?_⟩; rotate_left; ((try dsimp only [upds, z0, z1]); repeat (first | exact LeF.nil | refine LeF.co (k := ?_))); (try dsimp only))
          refine ⟨by omega, by omega, by omega, by simpa using q4, ?_, ?_⟩
          · have := good_push hs q5 (by omega) hkm h
            rw [Nat.add_assoc] at this
            have e3 : (ys.set i xs[k + m]).take (i + 1) = ys.take i ++ [xs[k + m]] := by
              rw [take_snoc' (by simp; omega), List.take_set_of_le (by omega)]
              simp
            rw [e3]; exact this
          · rw [show k + (m + 1) - 1 = (k + m - 1) + 1 by omega, ← List.drop_drop, ← List.drop_drop (l := xs)]
            have e4 : (ys.set i xs[k + m]).drop (k + m - 1 + 1) = ys.drop (k + m - 1 + 1) := by rw [List.drop_set_of_lt (by omega)]
            first
              | rw [List.drop_drop, List.drop_drop, e4, ← List.drop_drop, ← List.drop_drop, q6]
              | (simp only [List.drop_drop] at *; rw [e4]; have := congrArg (List.drop 1) q6; simpa [List.drop_drop] using this)
        · have hkm : k + m < xs.length := by omega
          have e1 : ys[k + m]'(by omega) = xs[k + m] := hget _ (by omega) hkm
          have e2 : ys[k + m - 1]'(by omega) = xs[k + m - 1] := hget _ (by omega) (by omega)
          rw [e1, e2] at h
          (refine ⟨(m + 1, i, ys), ?_, by first | omega | (simp only; omega), rfl, ?_⟩; rotate_left; ((try dsimp only [upds, z0, z1]); repeat (first | exact LeF.nil | refine LeF.co (k := ?_))); (try dsimp only))
          refine ⟨by omega, by omega, by omega, q4, ?_, ?_⟩
          · have := good_skip q5 (by omega) hkm h
            rw [Nat.add_assoc] at this
            exact this
          · have := congrArg (List.drop 1) q6
            rw [List.drop_drop, List.drop_drop] at this
            rw [show k + (m + 1) - 1 = k + m - 1 + 1 by omega]
            exact this
        · have e1 : (ys.take i ++ List.replicate (xs.length - i) ((0, 0) : Vx)).take i = ys.take i := by
            rw [List.take_left' (by simp; omega)]
          rw [e1]
          exact ⟨trivial, _, [_], rfl, rfl, _, _, good_end q5 (by omega), rfl, rfl⟩
    · (refine ⟨k + 1, ?_, by first | omega | (simp only; omega), rfl, ?_⟩; rotate_left; ((try dsimp only [upds, z0, z1]); repeat (first | exact LeF.nil | refine LeF.co (k := ?_))); (try dsimp only))
      refine ⟨by omega, by omega, ?_⟩
      rw [take_snoc' (by omega)]
      exact good_push hs h3 h1 (by omega) h
    · have e1 : xs.take k = xs := List.take_of_length_le (by omega)
      rw [e1] at h3
      exact ⟨trivial, _, [_], rfl, rfl, _, xs, good_end h3 (by omega), rfl, rfl⟩

end Go.Proofs.YtjbepoofigokjaaGreat
