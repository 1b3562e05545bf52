/- Part 13: walks by contracts, and plain laws. -/
import Derived.Test.YtgppfikidagfpaaGreatDoorVf12
set_option linter.unusedVariables false
set_option linter.unusedSimpArgs false
set_option linter.unusedSectionVars false
namespace Go.Proofs.YtgppfikidagfpaaGreatDoor
open Go.RowKit
section
variable {P : Program} {ops : Array Oper} {hp : List HObj} {fr : List Dat} {d e : Dat} {Q : Post} {rest : List Oper}
variable {dst : Option Tmp} {ty : TypeId} {ps : String} {af : Array Edge} {g : Option (Nat × Bool)} {T T1 T2 : TypeId} {b off k n : Nat} {ds ds' : List Dat}
theorem SY.fldA {x : Operand} {i : Nat} (S : StrT P T n) (hx : OpD fr x (dP n true d)) (hle : d.le (dAgg ds)) (hl : ds.length = n) (hi : ds[i]? = some e) :
    SY P ops hp { dst := dst, op := .fieldAddr T x i, type := ty, pos := ps, after := af, guard := g } fr (dP 1 false e) := SY.val fun {I w a} ho => by
  obtain ⟨b, off, u, h1, ⟨hb, cs, k1, k0, k2, k3, k4⟩, hu⟩ := hx.get (by simp [Op.operands]) ho
  obtain ⟨us, q1, q2, q3, q4⟩ := hle _ _ _ hu
  simp only [if_true] at k4
  rw [k4] at q1
  have hcs : cs = us := by injection q1 with q1; exact List.toArray_inj q1
  subst hcs
  have hil : i < ds.length := (List.getElem?_eq_some_iff.1 hi).1
  have hic : i < cs.length := by omega
  refine ⟨_, ?_, b, off + i, cs[i], rfl, ⟨hb, [cs[i]], rfl, Nat.one_pos, by simpa using k2 _ (List.getElem_mem hic), fun j c hc => ?_, rfl⟩, q4 i _ e (List.getElem?_eq_getElem hic) hi⟩
  · unfold execOp
    simp only [h1, Sem.run_bind, S.fld b off i w (by omega), Result.andThen_ok, Sem.run_pure]
  · have hj : j = 0 := by have := (List.getElem?_eq_some_iff.1 hc).1; simpa using this
    subst hj
    cases hc
    exact k3 i _ (List.getElem?_eq_getElem hic)
theorem WL.keepS {α : Type} {R : Rel α} {_gR : Good R} {v : Value} {xs : List α} {eT : TypeId} (hk : ds[k]? = some (dX v)) (h : WL P ops Q rest fr (hStr b T (ds.set k (dS (Arr R) xs)) :: hp)) : WL P ops Q rest fr (hStr b T ds :: hRow v eT R xs :: hp) := WL.of fun P0 B w0 w a hh hf => by
  obtain ⟨hh1, hI1⟩ := hh.perm (List.Perm.swap _ _ _)
  have hA : Arr R (Imm P0 B (hStr b T ds :: hp)) w v xs := Own.keep hh1
  have hh2 := hh1.drop
  have hgr : w.grownBy w (hStr b T ds).blk := ⟨rfl, rfl, rfl, Nat.le_refl _, fun _ _ _ => rfl⟩
  obtain ⟨cs, c1, c2, c3, c4⟩ := hh2.ok (hStr b T ds) (by simp)
  have hkl := (List.getElem?_eq_some_iff.1 hk).1
  have hkc : k < cs.length := by omega
  have hv : cs[k] = v := c4 k _ _ (List.getElem?_eq_getElem hkc) hk
  have hok : (hStr b T (ds.set k (dS (Arr R) xs))).ok (fun j => Imm P0 B (hStr b T ds :: hp) j ∧ j < w.heap.size) w := by
    refine ⟨cs, c1, by simp [c2], c3, fun j c e hc he => ?_⟩
    rw [List.getElem?_set] at he
    by_cases hjk : k = j
    · rw [if_pos hjk, if_pos hkl] at he
      cases he
      subst hjk
      rw [List.getElem?_eq_getElem hkc] at hc
      cases hc
      rw [hv]
      exact (dS (Arr R) xs).bound hA
    · rw [if_neg hjk] at he
      exact e.bound (c4 j c e hc he)
  refine h.on (hh2.write hgr (.inl rfl) hok) (hf.mono fun d u hd => ?_)
  exact Hp.written (o := hStr b T ds) (o' := hStr b T (ds.set k (dS (Arr R) xs))) hgr (.inl rfl) (d.weak hd fun j hj => Imm.sub j ((hI1 j).1 hj))
theorem WC.keepS {c : Code} {α : Type} {R : Rel α} {_gR : Good R} {v : Value} {xs : List α} {eT : TypeId} (hk : ds[k]? = some (dX v)) (h : WC P Q c fr (hStr b T (ds.set k (dS (Arr R) xs)) :: hp)) : WC P Q c fr (hStr b T ds :: hRow v eT R xs :: hp) := WC.of fun P0 B w0 w a hh hf => by
  obtain ⟨hh1, hI1⟩ := hh.perm (List.Perm.swap _ _ _)
  have hA : Arr R (Imm P0 B (hStr b T ds :: hp)) w v xs := Own.keep hh1
  have hh2 := hh1.drop
  have hgr : w.grownBy w (hStr b T ds).blk := ⟨rfl, rfl, rfl, Nat.le_refl _, fun _ _ _ => rfl⟩
  obtain ⟨cs, c1, c2, c3, c4⟩ := hh2.ok (hStr b T ds) (by simp)
  have hkl := (List.getElem?_eq_some_iff.1 hk).1
  have hkc : k < cs.length := by omega
  have hv : cs[k] = v := c4 k _ _ (List.getElem?_eq_getElem hkc) hk
  have hok : (hStr b T (ds.set k (dS (Arr R) xs))).ok (fun j => Imm P0 B (hStr b T ds :: hp) j ∧ j < w.heap.size) w := by
    refine ⟨cs, c1, by simp [c2], c3, fun j c e hc he => ?_⟩
    rw [List.getElem?_set] at he
    by_cases hjk : k = j
    · rw [if_pos hjk, if_pos hkl] at he
      cases he
      subst hjk
      rw [List.getElem?_eq_getElem hkc] at hc
      cases hc
      rw [hv]
      exact (dS (Arr R) xs).bound hA
    · rw [if_neg hjk] at he
      exact e.bound (c4 j c e hc he)
  refine h.on (hh2.write hgr (.inl rfl) hok) (hf.mono fun d u hd => ?_)
  exact Hp.written (o := hStr b T ds) (o' := hStr b T (ds.set k (dS (Arr R) xs))) hgr (.inl rfl) (d.weak hd fun j hj => Imm.sub j ((hI1 j).1 hj))
end
abbrev Sb := List (List (Int × Int)) × List (Int × Int) × List (List (Int × Int))
abbrev SubR : Rel Sb := R3 Simps Verts Simps
theorem strSb : StrT Tryz.prog 41 3 := ⟨fun b off i w hi => by
  have : i = 0 ∨ i = 1 ∨ i = 2 := by omega
  rcases this with rfl | rfl | rfl <;> go_simp⟩
theorem tySb : TyI Tryz.prog 41 3 true := ⟨by kernel_rfl, Tryz.isAgg41⟩
theorem tzSb : TyZ Tryz.prog 41 (.agg #[.slice none 0 0, .slice none 0 0, .slice none 0 0]) := ⟨by kernel_rfl⟩
theorem shape_X2 {u u' : Value} (h0 : u.oneCell' = true) (h1 : u'.oneCell' = true) : (dX (.agg #[u, u'])).Shape 2 true := fun _ _ _ h => by
  cases (h : _ = _)
  exact ⟨[u, u'], rfl, by omega, fun c hc => by
    simp only [List.mem_cons, List.not_mem_nil, or_false] at hc
    rcases hc with rfl | rfl <;> assumption, rfl, rfl⟩
theorem shape_X3 {u u' u'' : Value} (h0 : u.oneCell' = true) (h1 : u'.oneCell' = true) (h2 : u''.oneCell' = true) : (dX (.agg #[u, u', u''])).Shape 3 true := fun _ _ _ h => by
  cases (h : _ = _)
  exact ⟨[u, u', u''], rfl, by omega, fun c hc => by
    simp only [List.mem_cons, List.not_mem_nil, or_false] at hc
    rcases hc with rfl | rfl | rfl <;> assumption, rfl, rfl⟩
section
variable {ops : Array Oper} {hp : List HObj} {fr : List Dat} {d e : Dat} {Q : Post} {rest : List Oper}
variable {dst : Option Tmp} {ty : TypeId} {ps : String} {af : Array Edge} {g : Option (Nat × Bool)}
theorem SY.mkS0 {x : Operand} {xs : List (List (Int × Int))} (hx : OpD fr x (dS Cpx xs)) : SY Tryz.prog ops hp { dst := dst, op := .build 41 #[(0, x)], type := ty, pos := ps, after := af, guard := g } fr (dAgg [dS Simps xs, dX (.slice none 0 0), dX (.slice none 0 0)]) := SY.val fun {I w a} ho => by
  obtain ⟨u, h1, h0, h2⟩ : Cpx I w (a.eval x) xs := hx.get (by simp [Op.operands]) ho
  have h2' := h2
  obtain ⟨ad, c, hv, _⟩ := h2'
  subst hv
  have hm : ∀ ad n c w, (Instr.build 41 #[(0, .agg #[.slice ad n c])]).run Tryz.prog w = .ok (.agg #[.slice ad n c, .slice none 0 0, .slice none 0 0]) w := by intro ad n c w; go_simp
  refine ⟨.agg #[.slice ad xs.length c, .slice none 0 0, .slice none 0 0], ?_, [_, _, _], rfl, rfl, by simp [Value.oneCell'], fun k c d hc hd => ?_⟩
  · unfold execOp
    simp only [List.map_toArray, List.map_cons, List.map_nil, h1, Sem.run_bind, hm, Result.andThen_ok, Sem.run_pure]
  · match k, hc, hd with
    | 0, hc, hd => cases hc; cases hd; exact h2
    | 1, hc, hd => cases hc; cases hd; rfl
    | 2, hc, hd => cases hc; cases hd; rfl
theorem SY.mkSn : SY Tryz.prog ops hp { dst := dst, op := .build 41 #[], type := ty, pos := ps, after := af, guard := g } fr (dS SubR ([], [], [])) := SY.val fun {I w a} ho => by
  have hm : ∀ w, (Instr.build 41 #[]).run Tryz.prog w = .ok (.agg #[.slice none 0 0, .slice none 0 0, .slice none 0 0]) w := by intro w; go_simp
  refine ⟨.agg #[.slice none 0 0, .slice none 0 0, .slice none 0 0], ?_, _, _, _, rfl, ⟨rfl, rfl, rfl⟩, Arr.nil', ArrK.nil' (by decide), Arr.nil'⟩
  unfold execOp
  simp only [List.map_toArray, List.map_nil, Sem.run_bind, hm, Result.andThen_ok, Sem.run_pure]
end
end Go.Proofs.YtgppfikidagfpaaGreatDoor
namespace Go.Proofs.YtgppfikidagfpaaGreatDoor
open Go.RowKit
abbrev hIt (b r n : Nat) (seen : Array Nat) : HObj := hObj r (.mapIter (some b) n seen n)
section
variable {P : Program} {w : World}
theorem run_getObj_at {r : Nat} {a : Option Nat} {b : Nat} {c : Array Nat} {d : Nat} (h : w.heap[r]? = some (.mapIter a b c d)) : (getObj r).run P w = .ok (.mapIter a b c d) w := by simp [getObj, Sem.run, h]
theorem run_setObj_at {r : Nat} {a : Option Nat} {b : Nat} {c : Array Nat} {d : Nat} (o' : Obj) (h : w.heap[r]? = some (.mapIter a b c d)) : (setObj r o').run P w = .ok () (w.putObj r o') := by simp [setObj, Sem.run, h, World.putObj]
theorem run_next_any {ty : TypeId} {b r since c0 clock : Nat} {seen : Array Nat} {es : Array MapEntry} (hb : w.heap[b]? = some (.map es clock)) (hr : w.heap[r]? = some (.mapIter (some b) since seen c0)) (hold : ∀ x ∈ es.toList, x.born < since) (hsc : since ≤ c0) :
    ((leftOf es seen).size = 0 ∧ (Instr.next (.pointer (some ⟨r, 0, none⟩)) false ty).run P w = .ok (.tuple #[.bool false]) w) ∨
    ∃ e ∈ (leftOf es seen).toList, ∃ w1 : World, (w1 = w ∨ w1 = w.drew) ∧ (Instr.next (.pointer (some ⟨r, 0, none⟩)) false ty).run P w = .ok (.tuple #[.bool true, e.key, e.val]) (w1.putObj r (.mapIter (some b) since (seen.push e.born) clock)) := by
  simp only [Instr.next, Sem.run_bind, run_getObj_at hr, MapKept.run_getObj_map hb, Result.andThen, next_test_false seen es since c0 hold hsc, Bool.false_eq_true, if_false]
  unfold leftOf
  have hmem : ∀ x ∈ (Array.filter (fun e => !seen.contains e.born) es).toList, x.born < since := fun x hx => hold x (by simp at hx ⊢; exact hx.1)
  generalize Array.filter (fun e => !seen.contains e.born) es = L at hmem ⊢
  have e1 : L.filter (fun x => decide (x.born < since)) = L := Array.filter_eq_self.2 (fun x hx => by simpa using hmem x (by simpa using hx))
  have e2 : L.filter (fun x => decide (x.born ≥ since)) = #[] := by
    rw [Array.filter_eq_empty_iff]
    intro x hx
    have := hmem x (by simpa using hx)
    simp
    omega
  simp only [e1, e2, Array.append_empty]
  by_cases h0 : L.size = 0
  · left
    have : L = #[] := Array.eq_empty_of_size_eq_zero h0
    subst this
    refine ⟨rfl, ?_⟩
    simp [choose, Sem.run, Question.forced]
  · right
    have hne : L.isEmpty = false := by simp [Array.isEmpty, h0]
    simp only [hne, Bool.false_eq_true, if_false, Array.empty_append, Array.size_map]
    have hch : ∃ (j : Nat) (w1 : World), j < L.size ∧ (w1 = w ∨ w1 = w.drew) ∧ (choose (Question.mapNext L.size)).run P w = .ok j w1 := by
      by_cases hf : L.size ≤ 1
      · exact ⟨0, w, by omega, .inl rfl, by simp [choose, Sem.run, Question.forced, hf]⟩
      · exact ⟨_, w.drew, Nat.mod_lt _ (by omega), .inr rfl, by
          simp only [choose, Sem.run, Question.forced, decide_eq_true_eq, hf, if_false, Question.cut]
          rfl⟩
    obtain ⟨j, w1, hj, hal, hrun⟩ := hch
    refine ⟨L[j], by simp, w1, hal, ?_⟩
    have hr1 : w1.heap[r]? = some (.mapIter (some b) since seen c0) := by rcases hal with rfl | rfl <;> exact hr
    simp only [hrun, Array.getElem?_map, Array.getElem?_eq_getElem hj, Option.map_some, Sem.run_bind, run_setObj_at _ hr1, Result.andThen]
    rfl
end
section
variable {P : Program} {ops : Array Oper} {hp : List HObj} {o : Oper} {fr : List Dat} {d d2 : Dat} {Q : Post} {rest : List Oper}
variable {dst : Option Tmp} {ty : TypeId} {ps : String} {af : Array Edge} {g : Option (Nat × Bool)} {t k e : TypeId} {z : Value} {K V : Type} {kv : K → Value} {ok : K → Prop} {vv : V → Value} {b r : Nat} {m : List (K × V)} {seen : Array Nat}
theorem WL.rangeM {x : Operand} (T : MapT P t k e z) (hx : OpD fr x (dX (.map (some b)))) (hm : hM b kv vv m ∈ hp)
    (h : ∀ r, WL P ops Q rest (setD fr dst (dX (.pointer (some ⟨r, 0, none⟩)))) (hIt b r m.length #[] :: hp)) :
    WL P ops Q ({ dst := dst, op := .range t x, type := ty, pos := ps, after := af, guard := none } :: rest) fr hp := by
  refine WL.of fun P0 B w0 w a hh hf => ?_
  have h1 : a.eval x = _ := hx.ev hf
  have hb : w.heap[b]? = some (.map (entriesM 0 (encM kv vv m)).toArray (encM kv vv m).length) := hh.ok _ hm
  have hl : (encM kv vv m).length = m.length := by simp [encM]
  rw [hl] at hb
  have hrun : (execOp a.eval { dst := dst, op := .range t x, type := ty, pos := ps, after := af, guard := none }).run P w = .ok (.value (.pointer (some ⟨w.heap.size, 0, none⟩))) (w.alloc (.mapIter (some b) m.length #[] m.length)) := by
    unfold execOp
    simp only [h1, Sem.run_bind, run_range_map w t k e b _ _ T.under hb, Result.andThen_ok, Sem.run_pure]
  refine wpList_value rfl hrun ?_
  have hx := Ext.of_alloc w (.mapIter (some b) m.length #[] m.length)
  have hb : ∀ k, (hIt b w.heap.size m.length #[]).blk = some k → w.heap.size ≤ k ∧ k < (w.alloc (.mapIter (some b) m.length #[] m.length)).heap.size := fun k hk => by
    cases hk
    exact ⟨Nat.le_refl _, by simp⟩
  refine (h w.heap.size).on (hh.push hx hb (alloc_get w _)) ?_
  exact Fr.put (hf.mono fun d _ hd => Hp.pushed hx (fun k hk => (hb k hk).1) hd) rfl
theorem WL.nextM {x : Operand} (hx : OpD fr x (dX (.pointer (some ⟨r, 0, none⟩)))) (hm : hM b kv vv m ∈ hp)
    (h1 : (∀ j, j < m.length → j ∈ seen) → WL P ops Q rest (setD fr dst (dT [dB false])) (hIt b r m.length seen :: hp))
    (h2 : ∀ (j : Nat) (hj : j < m.length), j ∉ seen → WL P ops Q rest (setD fr dst (dT [dB true, dX (kv m[j].1), dX (vv m[j].2)])) (hIt b r m.length (seen.push j) :: hp)) :
    WL P ops Q ({ dst := dst, op := .next x false, type := ty, pos := ps, after := af, guard := none } :: rest) fr (hIt b r m.length seen :: hp) := by
  refine WL.of fun P0 B w0 w a hh hf => ?_
  have e1 : a.eval x = _ := hx.ev hf
  have hl : (encM kv vv m).length = m.length := by simp [encM]
  have hb : w.heap[b]? = some (.map (entriesM 0 (encM kv vv m)).toArray (encM kv vv m).length) := hh.ok (hM b kv vv m) (List.mem_cons_of_mem _ hm)
  rw [hl] at hb
  have hr : w.heap[r]? = some (.mapIter (some b) m.length seen m.length) := hh.ok (hIt b r m.length seen) (by simp)
  have hlen : (entriesM 0 (encM kv vv m)).length = m.length := by rw [entriesM_len, hl]
  have hat : ∀ (i : Nat) (h : i < m.length), (entriesM 0 (encM kv vv m))[i]'(by rw [hlen]; exact h) = ⟨kv m[i].1, vv m[i].2, i⟩ := fun i h => by
    rw [entriesM_get _ _ _ (by rw [hl]; exact h)]
    simp [encM]
  have hold : ∀ x ∈ ((entriesM 0 (encM kv vv m)).toArray).toList, x.born < m.length := fun x hx => by
    obtain ⟨i, hi, rfl⟩ := List.getElem_of_mem (by simpa using hx : x ∈ entriesM 0 (encM kv vv m))
    rw [hlen] at hi
    rw [hat i hi]; exact hi
  rcases run_next_any (P := P) (ty := ty) hb hr hold (Nat.le_refl _) with ⟨hleft, hrun⟩ | ⟨en, hen, w1, hw1, hrun⟩
  · have hr' : (execOp a.eval { dst := dst, op := .next x false, type := ty, pos := ps, after := af, guard := none }).run P w = .ok (.value (.tuple #[.bool false])) w := by
      unfold execOp
      simp only [e1, Sem.run_bind, hrun, Result.andThen_ok, Sem.run_pure]
    refine wpList_value rfl hr' ?_
    refine (h1 fun j hj => ?_).on hh (Fr.put hf ⟨[.bool false], rfl, rfl, fun i e x he hx => by
      match i, he, hx with
      | 0, he, hx => cases he; cases hx; rfl⟩)
    have h0 : leftOf (entriesM 0 (encM kv vv m)).toArray seen = #[] := Array.eq_empty_of_size_eq_zero hleft
    unfold leftOf at h0
    rw [Array.filter_eq_empty_iff] at h0
    have hmem : (entriesM 0 (encM kv vv m))[j]'(by rw [hlen]; exact hj) ∈ (entriesM 0 (encM kv vv m)).toArray := by simp
    have := h0 _ hmem
    rw [hat j hj] at this
    simpa using this
  · have hen' : en ∈ entriesM 0 (encM kv vv m) ∧ en.born ∉ seen := by
      unfold leftOf at hen
      simpa using hen
    obtain ⟨hen1, hen2⟩ := hen'
    obtain ⟨j, hj, rfl⟩ := List.getElem_of_mem hen1
    rw [hlen] at hj
    rw [hat j hj] at hrun hen2
    have hr' : (execOp a.eval { dst := dst, op := .next x false, type := ty, pos := ps, after := af, guard := none }).run P w = .ok (.value (.tuple #[.bool true, kv m[j].1, vv m[j].2])) (w1.putObj r (.mapIter (some b) m.length (seen.push j) m.length)) := by
      unfold execOp
      simp only [e1, Sem.run_bind, hrun, Result.andThen_ok, Sem.run_pure]
    refine wpList_value rfl hr' ?_
    have hx1 : Ext w w1 := by
      rcases hw1 with rfl | rfl
      · exact Ext.refl _
      · exact (Ext.refl _).drew
    have hT : ∀ {I : Nat → Prop} {w : World}, (dT [dB true, dX (kv m[j].1), dX (vv m[j].2)]).rd I w (.tuple #[.bool true, kv m[j].1, vv m[j].2]) := ⟨[.bool true, kv m[j].1, vv m[j].2], rfl, rfl, fun i e x he hx => by
      match i, he, hx with
      | 0, he, hx => cases he; cases hx; rfl
      | 1, he, hx => cases he; cases hx; rfl
      | 2, he, hx => cases he; cases hx; rfl⟩
    exact (h2 j hj hen2).on (Hp.putObj (hh.ext hx1)) (Fr.put ((hf.ext hx1).mono fun _ _ hd => Hp.putObj_rd hd) hT)
theorem SY.entryM {x : Operand} {j : Nat} (hx : OpD fr x (dX (.pointer (some ⟨r, 0, none⟩)))) (hi : hIt b r m.length (seen.push j) ∈ hp) (hm : hM b kv vv m ∈ hp) (hj : j < m.length) :
    SY P ops hp { dst := dst, op := .entry x, type := ty, pos := ps, after := af, guard := g } fr (dT [dX (kv m[j].1), dX (vv m[j].2)]) := SY.valE fun {P0 B w0 w a} hh hon => by
  have e1 : a.eval x = _ := hx.get (by simp [Op.operands]) hon
  have hl : (encM kv vv m).length = m.length := by simp [encM]
  have hb : w.heap[b]? = some (.map (entriesM 0 (encM kv vv m)).toArray (encM kv vv m).length) := hh.ok (hM b kv vv m) hm
  rw [hl] at hb
  have hr : w.heap[r]? = some (.mapIter (some b) m.length (seen.push j) m.length) := hh.ok (hIt b r m.length (seen.push j)) hi
  have hlen : (entriesM 0 (encM kv vv m)).length = m.length := by rw [entriesM_len, hl]
  have hat : ∀ (i : Nat) (h : i < m.length), (entriesM 0 (encM kv vv m))[i]'(by rw [hlen]; exact h) = ⟨kv m[i].1, vv m[i].2, i⟩ := fun i h => by
    rw [entriesM_get _ _ _ (by rw [hl]; exact h)]
    simp [encM]
  have hf : (entriesM 0 (encM kv vv m)).toArray.find? (·.born == j) = some ⟨kv m[j].1, vv m[j].2, j⟩ := by
    rw [← Array.find?_toList]
    rw [List.find?_eq_some_iff_getElem]
    refine ⟨by simp, j, by simp; rw [hlen]; exact hj, by simpa using hat j hj, fun i hi => ?_⟩
    have := hat i (by omega)
    simp [this]; omega
  refine ⟨.tuple #[kv m[j].1, vv m[j].2], w, ?_, Ext.refl _, [kv m[j].1, vv m[j].2], rfl, rfl, fun i e x he hx => ?_⟩
  · unfold execOp
    have : (Instr.entry (.pointer (some ⟨r, 0, none⟩))).run P w = .ok (.tuple #[kv m[j].1, vv m[j].2]) w := by
      simp only [Instr.entry, Sem.run_bind, run_getObj_at hr, MapKept.run_getObj_map hb, Result.andThen, Array.back?_push, bne_self_eq_false, Bool.false_eq_true, if_false, hf]
      rfl
    simp only [e1, Sem.run_bind, this, Result.andThen_ok, Sem.run_pure]
  · match i, he, hx with
    | 0, he, hx => cases he; cases hx; rfl
    | 1, he, hx => cases he; cases hx; rfl
end
end Go.Proofs.YtgppfikidagfpaaGreatDoor
namespace Go.Proofs.YtgppfikidagfpaaGreatDoor
open Go.RowKit
set_option maxRecDepth 100000
theorem laidK : laidOutB Tryz.prog = true := by kernel_rfl
def is64 (n : Int) : Prop := -9223372036854775808 ≤ n ∧ n ≤ 9223372036854775807
theorem wf64 {n : Int} (h : is64 n) : (Lit.int .i64 n).wf = true := by
  obtain ⟨h1, h2⟩ := h
  show (decide (IntKind.i64.min ≤ n) && decide (n ≤ IntKind.i64.max)) = true
  have e1 : IntKind.i64.min = -9223372036854775808 := by decide
  have e2 : IntKind.i64.max = 9223372036854775807 := by decide
  rw [e1, e2, decide_eq_true h1, decide_eq_true h2]; rfl
def kvV (x : Int × Int) : Value := .agg #[.int .i64 x.1, .int .i64 x.2]
def okV (x : Int × Int) : Prop := is64 x.1 ∧ is64 x.2
theorem rowV' : 52 < Tryz.prog.types.size := of_decide_eq_true (by kernel_rfl)
theorem cellsV' : Tryz.prog.cellsOf 52 = 2 := by kernel_rfl
theorem cellsI' : Tryz.prog.cellsOf 3 = 1 := by kernel_rfl
theorem lits_V (d : Nat) {x : Int × Int} (h : okV x) : Tryz.prog.keyLits (d + 2) 52 [.int .i64 x.1, .int .i64 x.2] = some [.int .i64 x.1, .int .i64 x.2] := by
  obtain ⟨h1, h2⟩ := h
  unfold Program.keyLits
  simp only [Tryz.underlying52, cellsV']
  simp [cellsI', Program.keyLits, Tryz.underlying3, wf64 h1, wf64 h2]
theorem keyT_V : KeyT Tryz.prog 52 kvV okV where
  law := Go.Maps.Keyed.of_law (deep_law_laid laidK (m := 2) (by omega) rowV' (by kernel_rfl) (by rw [Tryz.underlying52]))
  lit := fun x h => by
    refine ⟨.string (keyBytes [.int .i64 x.1, .int .i64 x.2]), ?_⟩
    unfold keyOf
    simp only [Tryz.underlying52]
    have hk : Tryz.prog.keyType 52 = true := by kernel_rfl
    have hf : (kvV x).formed Tryz.prog 52 = true := by simp [kvV, Value.formed, Tryz.underlying52, cellsV']
    obtain ⟨d, hd⟩ : ∃ d, Tryz.prog.types.size = d + 1 := ⟨Tryz.prog.types.size - 1, by have := rowV'; omega⟩
    rw [hk, hf, hd]
    have := lits_V d h
    simp only [Bool.and_self, if_true]
    rw [show (kvV x).cells.toList = [.int .i64 x.1, .int .i64 x.2] from rfl, this]
    rfl
  inj := fun x y _ _ h => by
    unfold kvV at h
    simp at h
    exact Prod.ext h.1 h.2
end Go.Proofs.YtgppfikidagfpaaGreatDoor
namespace Go.Proofs.YtgppfikidagfpaaGreatDoor
open Go.RowKit
set_option maxRecDepth 100000
def hVals {K α : Type} (R : Rel α) [Good R] (M : List (K × Value × α)) : HObj where
  blk := none
  ok := fun I w => ∀ p ∈ M, R I w p.2.1 p.2.2
  weak := fun h q p hp => Good.weak (h p hp) q
  bound := fun h p hp => Good.bound (h p hp)
  move := fun h hg hP _ p hp => (dS R p.2.2).grown (h p hp) hg hP
abbrev hMC {K α : Type} (b : Nat) (kv : K → Value) (M : List (K × Value × α)) : HObj := hM b kv (fun u : Value × α => u.1) M
theorem putM_mem {K V : Type} [DecidableEq K] {m : List (K × V)} {x : K} {v : V} {p : K × V} (h : p ∈ putM m x v) : p = (x, v) ∨ p ∈ m := by
  unfold putM at h
  split at h
  · obtain ⟨q, hq, rfl⟩ := List.mem_map.1 h
    split
    · exact .inl rfl
    · exact .inr hq
  · rcases List.mem_append.1 h with h | h
    · exact .inr h
    · exact .inl (List.mem_singleton.1 h)
theorem lookM_isSome {K V : Type} [DecidableEq K] {m : List (K × V)} {x : K} : (lookM m x).isSome = true ↔ x ∈ m.map (·.1) := by
  unfold lookM
  rw [Option.isSome_map, List.find?_isSome]
  constructor
  · rintro ⟨p, hp, he⟩
    exact List.mem_map.2 ⟨p, hp, of_decide_eq_true he⟩
  · intro h
    obtain ⟨p, hp, he⟩ := List.mem_map.1 h
    exact ⟨p, hp, decide_eq_true he⟩
theorem putC_keys {K V : Type} [DecidableEq K] (m : List (K × V)) (x : K) (v : V) : (putM m x v).map (·.1) = if x ∈ m.map (·.1) then m.map (·.1) else m.map (·.1) ++ [x] := by
  unfold putM
  by_cases h : x ∈ m.map (·.1)
  · rw [if_pos (lookM_isSome.2 h), if_pos h, List.map_map]
    refine List.map_congr_left fun p _ => ?_
    show (if p.1 = x then (x, v) else p).1 = p.1
    split
    · rename_i e; exact e.symm
    · rfl
  · rw [if_neg fun q => h (lookM_isSome.1 q), if_neg h, List.map_append]
    rfl
section
variable {P : Program} {ops : Array Oper} {hp : List HObj} {fr : List Dat} {d : Dat} {Q : Post} {rest : List Oper}
variable {dst : Option Tmp} {ty : TypeId} {ps : String} {af : Array Edge} {g : Option (Nat × Bool)} {t k e : TypeId} {z : Value} {K α : Type} [DecidableEq K] {kv : K → Value} {ok : K → Prop} {R : Rel α} [Good R] {b : Nat} {M : List (K × Value × α)}
theorem SY.nilCk {x : Operand} {ad : Addr} (hx : OpD fr x (dX (.pointer (some ad)))) : SY P ops hp { dst := dst, op := .nilCheck x, type := ty, pos := ps, after := af, guard := g } fr (dX (.pointer (some ad))) := SY.val fun {I w a} ho => by
  have h1 : a.eval x = .pointer (some ad) := hx.get (by simp [Op.operands]) ho
  refine ⟨.pointer (some ad), ?_, rfl⟩
  unfold execOp
  simp only [h1, Sem.run_pure]
theorem Hp.putMC {P0 : Nat → Prop} {B : Nat} {w0 w : World} {v : K} {u : α} {cv : Value} (hh : Hp P0 B w0 (hMC b kv M :: hVals R M :: hp) w) (hu : R (Imm P0 B (hMC b kv M :: hVals R M :: hp)) w cv u) :
    Hp P0 B w0 (hMC b kv (putM M v (cv, u)) :: hVals R (putM M v (cv, u)) :: hp) (w.putObj b (mapObj (encM kv (fun u : Value × α => u.1) (putM M v (cv, u))))) ∧
      ∀ (d : Dat) (y : Value), d.rd (Imm P0 B (hMC b kv M :: hVals R M :: hp)) w y → d.rd (Imm P0 B (hMC b kv (putM M v (cv, u)) :: hVals R (putM M v (cv, u)) :: hp)) (w.putObj b (mapObj (encM kv (fun u : Value × α => u.1) (putM M v (cv, u))))) y := by
  have h1 : Hp P0 B w0 (hMC b kv (putM M v (cv, u)) :: hVals R M :: hp) (w.putObj b (mapObj (encM kv (fun u : Value × α => u.1) (putM M v (cv, u))))) := Hp.putObj hh
  have hg : (hVals R (putM M v (cv, u))).blk = none := rfl
  have hg0 : (hVals R M).blk = none := rfl
  have hrd : ∀ (d : Dat) (y : Value), d.rd (Imm P0 B (hMC b kv M :: hVals R M :: hp)) w y → d.rd (Imm P0 B ([hMC b kv (putM M v (cv, u))] ++ hVals R M :: hp)) (w.putObj b (mapObj (encM kv (fun u : Value × α => u.1) (putM M v (cv, u))))) y := fun d y hd => Hp.putObj_rd hd
  have hv : (hVals R (putM M v (cv, u))).ok (Imm P0 B ([hMC b kv (putM M v (cv, u))] ++ hVals R M :: hp)) (w.putObj b (mapObj (encM kv (fun u : Value × α => u.1) (putM M v (cv, u))))) := fun p hp => by
    rcases putM_mem hp with rfl | hp
    · exact hrd (dS R u) cv hu
    · exact h1.ok (hVals R M) (by simp) p hp
  have h2 := Hp.ghost (l := [hMC b kv (putM M v (cv, u))]) hg h1 hv
  obtain ⟨h3, hI3⟩ := h2.perm (show ([hMC b kv (putM M v (cv, u))] ++ hVals R (putM M v (cv, u)) :: hVals R M :: hp).Perm (hVals R M :: hMC b kv (putM M v (cv, u)) :: hVals R (putM M v (cv, u)) :: hp) from
    ((List.Perm.cons _ (List.Perm.swap _ _ _)).trans (List.Perm.swap _ _ _)))
  refine ⟨h3.drop, fun d y hd => ?_⟩
  have h4 := hrd d y hd
  exact d.weak h4 fun k hk => (imm_ghost hg0 [hMC b kv (putM M v (cv, u)), hVals R (putM M v (cv, u))] k).1 ((imm_ghost hg [hMC b kv (putM M v (cv, u))] k).2 hk)
theorem run_putMC {x y c : Operand} {v : K} {u : α} {w : World} {a : Act} (T : MapT P t k e z) (H : KeyT P k kv ok) (h1 : a.eval x = .map (some b)) (h2 : a.eval y = kv v) (ho : ok v) (hok : ∀ p ∈ M, ok p.1) (hn : (M.map (·.1)).Nodup) (hb : w.heap[b]? = some (mapObj (encM kv (fun u : Value × α => u.1) M))) :
    (execOp a.eval { dst := dst, op := .mapUpdate t x y c, type := ty, pos := ps, after := af, guard := g }).run P w = .ok .skip (w.putObj b (mapObj (encM kv (fun u : Value × α => u.1) (putM M v (a.eval c, u))))) := by
  have h3 := run_update (vv := fun u : Value × α => u.1) T H hok hn ho (a.eval c, u) hb
  simp only at h3
  unfold execOp
  simp only [h1, h2, Sem.run_bind, h3, Result.andThen_ok, Sem.run_pure]
  rfl
theorem WL.putMC {x y c : Operand} {v : K} {u : α} (T : MapT P t k e z) (H : KeyT P k kv ok) (hx : OpD fr x (dX (.map (some b)))) (hy : OpD fr y d) (hd : IsV d (kv v)) (hc : OpD fr c (dS R u)) (ho : ok v) (hok : ∀ p ∈ M, ok p.1) (hn : (M.map (·.1)).Nodup)
    (h : ∀ cv, WL P ops Q rest (setD fr dst (dX undef)) (hMC b kv (putM M v (cv, u)) :: hVals R (putM M v (cv, u)) :: hp)) :
    WL P ops Q ({ dst := dst, op := .mapUpdate t x y c, type := ty, pos := ps, after := af, guard := none } :: rest) fr (hMC b kv M :: hVals R M :: hp) := by
  refine WL.of fun P0 B w0 w a hh hf => ?_
  have hrun := run_putMC (dst := dst) (ty := ty) (ps := ps) (af := af) (g := none) (c := c) (u := u) T H (hx.ev hf) (hd.is _ _ _ (hy.ev hf)) ho hok hn (hh.ok (hMC b kv M) (by simp))
  obtain ⟨h1, h2⟩ := Hp.putMC (v := v) hh (hc.ev hf)
  refine wpList_plain rfl fun K hK => ?_
  unfold Oper.wp
  rw [hrun]
  exact hK _ _ ((h _).on h1 (Fr.put (hf.mono h2) (d := dX undef) rfl))
theorem I.WL.putMC {x y c : Operand} {v : K} {u : α} (T : MapT P t k e z) (H : KeyT P k kv ok) (hx : OpD fr x (dX (.map (some b)))) (hy : OpD fr y d) (hd : IsV d (kv v)) (hc : OpD fr c (dS R u)) (ho : ok v) (hok : ∀ p ∈ M, ok p.1) (hn : (M.map (·.1)).Nodup)
    (h : ∀ cv, I.WL P ops Q rest (setD fr dst (dX undef)) (hMC b kv (putM M v (cv, u)) :: hVals R (putM M v (cv, u)) :: hp)) :
    I.WL P ops Q ({ dst := dst, op := .mapUpdate t x y c, type := ty, pos := ps, after := af, guard := none } :: rest) fr (hMC b kv M :: hVals R M :: hp) := by
  refine I.WL.of fun P0 B w0 w a hh hf => ?_
  have hrun := run_putMC (dst := dst) (ty := ty) (ps := ps) (af := af) (g := none) (c := c) (u := u) T H (hx.ev hf) (hd.is _ _ _ (hy.ev hf)) ho hok hn (hh.ok (hMC b kv M) (by simp))
  obtain ⟨h1, h2⟩ := Hp.putMC (v := v) hh (hc.ev hf)
  refine wpListIn_plainW rfl fun K hK => ?_
  unfold Oper.wp
  rw [hrun]
  exact hK _ _ ((h _).on h1 (Fr.put (hf.mono h2) (d := dX undef) rfl))
theorem SY.lookMC {x y : Operand} {v : K} (T : MapT P t k e z) (H : KeyT P k kv ok) (hx : OpD fr x (dX (.map (some b)))) (hm : hMC b kv M ∈ hp) (hv : hVals R M ∈ hp) (hy : OpD fr y d) (hd : IsV d (kv v)) (ho : ok v) (hok : ∀ p ∈ M, ok p.1) (hn : (M.map (·.1)).Nodup) {cv : Value} {u : α} (hl : (v, cv, u) ∈ M) :
    SY P ops hp { dst := dst, op := .lookup t x y false, type := ty, pos := ps, after := af, guard := g } fr (dS R u) := SY.valE fun {P0 B w0 w a} hh hon => by
  have h1 : a.eval x = _ := hx.get (by simp [Op.operands]) hon
  have h2 := hd.is _ _ _ (hy.get (by simp [Op.operands]) hon)
  have h3 : Go.Proofs.YtgppfikidagfpaaGreatDoor.lookM M v = some (cv, u) := by
    obtain ⟨j, hj, he⟩ := List.getElem_of_mem hl
    have := Go.Proofs.YtgppfikidagfpaaGreatDoor.lookM_some hn hj
    rw [he] at this
    exact this
  refine ⟨cv, w, ?_, Ext.refl _, hh.ok _ hv _ hl⟩
  unfold execOp
  simp only [h1, h2, Sem.run_bind, run_lookup T H hok hn ho (hh.ok _ hm) false, h3, Result.andThen_ok, Sem.run_pure]
  rfl
theorem WL.pin (t : Nat) (ht : fr[t]? = some d) (h : ∀ v, WL P ops Q rest (fr.set t (dX v)) (hKnow v d :: hp)) : WL P ops Q rest fr hp := WL.of fun P0 B w0 w a hh hf => by
  have hg : (hKnow (a.tmps.getD t undef) d).blk = none := rfl
  have hd := hf.rd t d ht
  refine (h (a.tmps.getD t undef)).on (Hp.ghost (l := []) hg hh hd) ⟨hf.defers, by rw [hf.size, List.length_set], fun t' d' hd' => ?_⟩
  by_cases htt : t = t'
  · subst htt
    rw [List.getElem?_set] at hd'
    simp only [if_true] at hd'
    split at hd'
    · cases hd'; rfl
    · cases hd'
  · rw [List.getElem?_set_ne htt] at hd'
    exact d'.weak (hf.rd t' d' hd') fun k => (imm_ghost hg [] k).2
end
namespace I
section
variable {P : Program} {ops : Array Oper} {hp : List HObj} {fr : List Dat} {d e : Dat} {Q : Post} {rest : List Oper}
variable {dst : Option Tmp} {ty : TypeId} {ps : String} {af : Array Edge} {g : Option (Nat × Bool)} {T T1 T2 : TypeId} {b off k n : Nat} {ds ds' : List Dat}
theorem WL.storeS {t : Nat} {x : Operand} (T' : TyI P T1 1 false) (hp0 : OpD fr (.tmp t) (dX (.pointer (some ⟨b, k, none⟩)))) (hx : OpD fr x d) (hs : d.Shape 1 false) (hk : k < ds.length)
    (h : WL P ops Q rest (setD fr dst (dX undef)) (hStr b T2 (ds.set k d) :: hp)) :
    WL P ops Q ({ dst := dst, op := .store T1 (.tmp t) x, type := ty, pos := ps, after := af, guard := none } :: rest) fr (hStr b T2 ds :: hp) := by
  refine WL.of fun P0 B w0 w a hh hf => ?_
  obtain ⟨cs, c1, c2, c3, c4⟩ := hh.ok (hStr b T2 ds) (by simp)
  have h1 : a.eval (.tmp t) = _ := hp0.ev hf
  have hd : d.rd (Imm P0 B (hStr b T2 ds :: hp)) w (a.eval x) := hx.ev hf
  obtain ⟨us, u1, u0, u2, u3, u4⟩ := hs _ _ _ hd
  obtain ⟨u, rfl⟩ : ∃ u, us = [u] := List.length_eq_one_iff.1 u1
  have hu : a.eval x = u := by
    simp only [Bool.false_eq_true, if_false] at u4
    exact (List.cons.inj u4).1.symm
  have hone : u.oneCell' = true := u2 u (by simp)
  have hdu : d.rd (Imm P0 B (hStr b T2 ds :: hp)) w u := by rw [hu] at hd; exact hd
  have hkc : k < cs.length := by omega
  have hset := setCell_eq_setRow w b k cs.toArray T2 (0, 0) u c1
  have hc : w.cell? ⟨b, k, none⟩ = some cs[k] := by simp [World.cell?, c1, hkc]
  have hfz : w.frozen? ⟨b, k, none⟩ = false := by simp [World.frozen?, c1]
  have hst : (store ((⟨b, k, none⟩ : Addr).add 0) u).run P w = .ok () (w.setCell ⟨b, k, none⟩ u) := by
    rw [show ((⟨b, k, none⟩ : Addr).add 0) = ⟨b, k, none⟩ from rfl, run_store P w _ u _ hone, hc]
    simp [hfz]
  have hsz : (sizeOf T1).run P w = .ok 1 w := by
    have h5 := T'.size
    cases hq : P.info? T1 with
    | none => rw [hq] at h5; cases h5
    | some i =>
      rw [hq] at h5
      have : i.size = 1 := by simpa using h5
      rw [← this]
      rw [run_sizeOf w hq]
      simp [Program.cellsOf, hq]
  have hw : w.setCell ⟨b, k, none⟩ u = w.setRow b (cs.set k u).toArray := by rw [hset]; simp
  have hrun : (execOp a.eval { dst := dst, op := .store T1 (.tmp t) x, type := ty, pos := ps, after := af, guard := none }).run P w = .ok .skip (w.setRow b (cs.set k u).toArray) := by
    rw [← hw]
    unfold execOp
    simp only [h1, hu, Instr.storeAt, Instr.sureAddr, storeVar, Sem.run_bind, hsz, Result.andThen_ok, Sem.run_pure]
    simp [cells_one hone, storeCells, hst]
  refine wpListIn_plainW rfl fun K hK => ?_
  unfold Oper.wp
  rw [hrun]
  have hgr : w.grownBy (w.setRow b (cs.set k u).toArray) (hStr b T2 ds).blk := grown_setRow
  have hok : (hStr b T2 (ds.set k d)).ok (fun j => Imm P0 B (hStr b T2 ds :: hp) j ∧ j < w.heap.size) (w.setRow b (cs.set k u).toArray) := by
    refine ⟨cs.set k u, setRow_heap w b _ _ _ _ c1, by simp [c2], fun c hc => ?_, fun j c e hc he => ?_⟩
    · rcases List.mem_or_eq_of_mem_set hc with hc | rfl
      · exact c3 c hc
      · exact hone
    · rw [List.getElem?_set] at hc he
      by_cases hjk : k = j
      · rw [if_pos hjk, if_pos (by omega)] at hc he
        cases hc; cases he
        exact d.grown (d.bound hdu) hgr fun j q hj => hj.1.2 (hStr b T2 ds) (by simp) q
      · rw [if_neg hjk] at hc he
        exact e.grown (e.bound (c4 j c e hc he)) hgr fun j q hj => hj.1.2 (hStr b T2 ds) (by simp) q
  exact hK _ _ (h.on (hh.write hgr (.inl rfl) hok) (Fr.put (hf.mono fun _ _ hd => Hp.written (o' := hStr b T2 (ds.set k d)) hgr (.inl rfl) hd) (d := dX undef) rfl))
end
end I
end Go.Proofs.YtgppfikidagfpaaGreatDoor
