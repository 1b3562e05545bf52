/-
  Part 29 of the texts that the claims of this seat lean on: walks of the program's functions by contracts over symbolic frames, and plain laws of what they compute. No condition.
-/
import Derived.Laws.IdiomRangeMap
import Derived.Test.YtkedmlandjlogaaGreatVd15
import Derived.Test.YtkedmlandjlogaaGreatVd20
import Derived.Test.YtkedmlandjlogaaGreatVd23
set_option linter.unusedVariables false
set_option linter.unusedSimpArgs false
set_option linter.unusedSectionVars false
namespace Go.Proofs.YtkedmlandjlogaaGreat
open Go.RowKit
abbrev hIt (b r n : Nat) (seen : Array Nat) : HObj := hObj r (.mapIter (some b) n seen n)
section
variable {P : Program} {w : World}
theorem run_getObj_at {r : Nat} {a : Option Nat} {b : Nat} {c : Array Nat} {d : Nat} (h : w.heap[r]? = some (.mapIter a b c d)) : (getObj r).run P w = .ok (.mapIter a b c d) w := by simp [getObj, Sem.run, h]
theorem run_setObj_at {r : Nat} {a : Option Nat} {b : Nat} {c : Array Nat} {d : Nat} (o' : Obj) (h : w.heap[r]? = some (.mapIter a b c d)) : (setObj r o').run P w = .ok () (w.putObj r o') := by simp [setObj, Sem.run, h, World.putObj]
theorem run_next_any {ty : TypeId} {b r since c0 clock : Nat} {seen : Array Nat} {es : Array MapEntry} (hb : w.heap[b]? = some (.map es clock)) (hr : w.heap[r]? = some (.mapIter (some b) since seen c0)) (hold : ∀ x ∈ es.toList, x.born < since) (hsc : since ≤ c0) :
    ((leftOf es seen).size = 0 ∧ (Instr.next (.pointer (some ⟨r, 0, none⟩)) false ty).run P w = .ok (.tuple #[.bool false]) w) ∨
    ∃ e ∈ (leftOf es seen).toList, ∃ w1 : World, (w1 = w ∨ w1 = w.drew) ∧ (Instr.next (.pointer (some ⟨r, 0, none⟩)) false ty).run P w = .ok (.tuple #[.bool true, e.key, e.val]) (w1.putObj r (.mapIter (some b) since (seen.push e.born) clock)) := by
  simp only [Instr.next, Sem.run_bind, run_getObj_at hr, MapKept.run_getObj_map hb, Result.andThen, next_test_false seen es since c0 hold hsc, Bool.false_eq_true, if_false]
  unfold leftOf
  have hmem : ∀ x ∈ (Array.filter (fun e => !seen.contains e.born) es).toList, x.born < since := fun x hx => hold x (by simp at hx ⊢; exact hx.1)
  generalize Array.filter (fun e => !seen.contains e.born) es = L at hmem ⊢
  have e1 : L.filter (fun x => decide (x.born < since)) = L := Array.filter_eq_self.2 (fun x hx => by simpa using hmem x (by simpa using hx))
  have e2 : L.filter (fun x => decide (x.born ≥ since)) = #[] := by
    rw [Array.filter_eq_empty_iff]
    intro x hx
    have := hmem x (by simpa using hx)
    simp
    omega
  simp only [e1, e2, Array.append_empty]
  by_cases h0 : L.size = 0
  · left
    have : L = #[] := Array.eq_empty_of_size_eq_zero h0
    subst this
    refine ⟨rfl, ?_⟩
    simp [choose, Sem.run, Question.forced]
  · right
    have hne : L.isEmpty = false := by simp [Array.isEmpty, h0]
    simp only [hne, Bool.false_eq_true, if_false, Array.empty_append, Array.size_map]
    have hch : ∃ (j : Nat) (w1 : World), j < L.size ∧ (w1 = w ∨ w1 = w.drew) ∧ (choose (Question.mapNext L.size)).run P w = .ok j w1 := by
      by_cases hf : L.size ≤ 1
      · exact ⟨0, w, by omega, .inl rfl, by simp [choose, Sem.run, Question.forced, hf]⟩
      · exact ⟨_, w.drew, Nat.mod_lt _ (by omega), .inr rfl, by
          simp only [choose, Sem.run, Question.forced, decide_eq_true_eq, hf, if_false, Question.cut]
          rfl⟩
    obtain ⟨j, w1, hj, hal, hrun⟩ := hch
    refine ⟨L[j], by simp, w1, hal, ?_⟩
    have hr1 : w1.heap[r]? = some (.mapIter (some b) since seen c0) := by rcases hal with rfl | rfl <;> exact hr
    simp only [hrun, Array.getElem?_map, Array.getElem?_eq_getElem hj, Option.map_some, Sem.run_bind, run_setObj_at _ hr1, Result.andThen]
    rfl
end
section
variable {P : Program} {ops : Array Oper} {hp : List HObj} {o : Oper} {fr : List Dat} {d d2 : Dat} {Q : Post} {rest : List Oper}
variable {dst : Option Tmp} {ty : TypeId} {ps : String} {af : Array Edge} {g : Option (Nat × Bool)} {t k e : TypeId} {z : Value} {K V : Type} {kv : K → Value} {ok : K → Prop} {vv : V → Value} {b r : Nat} {m : List (K × V)} {seen : Array Nat}
theorem WL.rangeM {x : Operand} (T : MapT P t k e z) (hx : OpD fr x (dX (.map (some b)))) (hm : hM b kv vv m ∈ hp)
    (h : ∀ r, WL P ops Q rest (setD fr dst (dX (.pointer (some ⟨r, 0, none⟩)))) (hIt b r m.length #[] :: hp)) :
    WL P ops Q ({ dst := dst, op := .range t x, type := ty, pos := ps, after := af, guard := none } :: rest) fr hp := by
  refine WL.of fun P0 B w0 w a hh hf => ?_
  have h1 : a.eval x = _ := hx.ev hf
  have hb : w.heap[b]? = some (.map (entriesM 0 (encM kv vv m)).toArray (encM kv vv m).length) := hh.ok _ hm
  have hl : (encM kv vv m).length = m.length := by simp [encM]
  rw [hl] at hb
  have hrun : (execOp a.eval { dst := dst, op := .range t x, type := ty, pos := ps, after := af, guard := none }).run P w = .ok (.value (.pointer (some ⟨w.heap.size, 0, none⟩))) (w.alloc (.mapIter (some b) m.length #[] m.length)) := by
    unfold execOp
    simp only [h1, Sem.run_bind, run_range_map w t k e b _ _ T.under hb, Result.andThen_ok, Sem.run_pure]
  refine wpList_value rfl hrun ?_
  have hx := Ext.of_alloc w (.mapIter (some b) m.length #[] m.length)
  have hb : ∀ k, (hIt b w.heap.size m.length #[]).blk = some k → w.heap.size ≤ k ∧ k < (w.alloc (.mapIter (some b) m.length #[] m.length)).heap.size := fun k hk => by
    cases hk
    exact ⟨Nat.le_refl _, by simp⟩
  refine (h w.heap.size).on (hh.push hx hb (alloc_get w _)) ?_
  exact Fr.put (hf.mono fun d _ hd => Hp.pushed hx (fun k hk => (hb k hk).1) hd) rfl
theorem WL.nextM {x : Operand} (hx : OpD fr x (dX (.pointer (some ⟨r, 0, none⟩)))) (hm : hM b kv vv m ∈ hp)
    (h1 : (∀ j, j < m.length → j ∈ seen) → WL P ops Q rest (setD fr dst (dT [dB false])) (hIt b r m.length seen :: hp))
    (h2 : ∀ (j : Nat) (hj : j < m.length), j ∉ seen → WL P ops Q rest (setD fr dst (dT [dB true, dX (kv m[j].1), dX (vv m[j].2)])) (hIt b r m.length (seen.push j) :: hp)) :
    WL P ops Q ({ dst := dst, op := .next x false, type := ty, pos := ps, after := af, guard := none } :: rest) fr (hIt b r m.length seen :: hp) := by
  refine WL.of fun P0 B w0 w a hh hf => ?_
  have e1 : a.eval x = _ := hx.ev hf
  have hl : (encM kv vv m).length = m.length := by simp [encM]
  have hb : w.heap[b]? = some (.map (entriesM 0 (encM kv vv m)).toArray (encM kv vv m).length) := hh.ok (hM b kv vv m) (List.mem_cons_of_mem _ hm)
  rw [hl] at hb
  have hr : w.heap[r]? = some (.mapIter (some b) m.length seen m.length) := hh.ok (hIt b r m.length seen) (by simp)
  have hlen : (entriesM 0 (encM kv vv m)).length = m.length := by rw [entriesM_len, hl]
  have hat : ∀ (i : Nat) (h : i < m.length), (entriesM 0 (encM kv vv m))[i]'(by rw [hlen]; exact h) = ⟨kv m[i].1, vv m[i].2, i⟩ := fun i h => by
    rw [entriesM_get _ _ _ (by rw [hl]; exact h)]
    simp [encM]
  have hold : ∀ x ∈ ((entriesM 0 (encM kv vv m)).toArray).toList, x.born < m.length := fun x hx => by
    obtain ⟨i, hi, rfl⟩ := List.getElem_of_mem (by simpa using hx : x ∈ entriesM 0 (encM kv vv m))
    rw [hlen] at hi
    rw [hat i hi]; exact hi
  rcases run_next_any (P := P) (ty := ty) hb hr hold (Nat.le_refl _) with ⟨hleft, hrun⟩ | ⟨en, hen, w1, hw1, hrun⟩
  · have hr' : (execOp a.eval { dst := dst, op := .next x false, type := ty, pos := ps, after := af, guard := none }).run P w = .ok (.value (.tuple #[.bool false])) w := by
      unfold execOp
      simp only [e1, Sem.run_bind, hrun, Result.andThen_ok, Sem.run_pure]
    refine wpList_value rfl hr' ?_
    refine (h1 fun j hj => ?_).on hh (Fr.put hf ⟨[.bool false], rfl, rfl, fun i e x he hx => by
      match i, he, hx with
      | 0, he, hx => cases he; cases hx; rfl⟩)
    have h0 : leftOf (entriesM 0 (encM kv vv m)).toArray seen = #[] := Array.eq_empty_of_size_eq_zero hleft
    unfold leftOf at h0
    rw [Array.filter_eq_empty_iff] at h0
    have hmem : (entriesM 0 (encM kv vv m))[j]'(by rw [hlen]; exact hj) ∈ (entriesM 0 (encM kv vv m)).toArray := by simp
    have := h0 _ hmem
    rw [hat j hj] at this
    simpa using this
  · have hen' : en ∈ entriesM 0 (encM kv vv m) ∧ en.born ∉ seen := by
      unfold leftOf at hen
      simpa using hen
    obtain ⟨hen1, hen2⟩ := hen'
    obtain ⟨j, hj, rfl⟩ := List.getElem_of_mem hen1
    rw [hlen] at hj
    rw [hat j hj] at hrun hen2
    have hr' : (execOp a.eval { dst := dst, op := .next x false, type := ty, pos := ps, after := af, guard := none }).run P w = .ok (.value (.tuple #[.bool true, kv m[j].1, vv m[j].2])) (w1.putObj r (.mapIter (some b) m.length (seen.push j) m.length)) := by
      unfold execOp
      simp only [e1, Sem.run_bind, hrun, Result.andThen_ok, Sem.run_pure]
    refine wpList_value rfl hr' ?_
    have hx1 : Ext w w1 := by
      rcases hw1 with rfl | rfl
      · exact Ext.refl _
      · exact (Ext.refl _).drew
    have hT : ∀ {I : Nat → Prop} {w : World}, (dT [dB true, dX (kv m[j].1), dX (vv m[j].2)]).rd I w (.tuple #[.bool true, kv m[j].1, vv m[j].2]) := ⟨[.bool true, kv m[j].1, vv m[j].2], rfl, rfl, fun i e x he hx => by
      match i, he, hx with
      | 0, he, hx => cases he; cases hx; rfl
      | 1, he, hx => cases he; cases hx; rfl
      | 2, he, hx => cases he; cases hx; rfl⟩
    exact (h2 j hj hen2).on (Hp.putObj (hh.ext hx1)) (Fr.put ((hf.ext hx1).mono fun _ _ hd => Hp.putObj_rd hd) hT)
theorem SY.entryM {x : Operand} {j : Nat} (hx : OpD fr x (dX (.pointer (some ⟨r, 0, none⟩)))) (hi : hIt b r m.length (seen.push j) ∈ hp) (hm : hM b kv vv m ∈ hp) (hj : j < m.length) :
    SY P ops hp { dst := dst, op := .entry x, type := ty, pos := ps, after := af, guard := g } fr (dT [dX (kv m[j].1), dX (vv m[j].2)]) := SY.valE fun {P0 B w0 w a} hh hon => by
  have e1 : a.eval x = _ := hx.get (by simp [Op.operands]) hon
  have hl : (encM kv vv m).length = m.length := by simp [encM]
  have hb : w.heap[b]? = some (.map (entriesM 0 (encM kv vv m)).toArray (encM kv vv m).length) := hh.ok (hM b kv vv m) hm
  rw [hl] at hb
  have hr : w.heap[r]? = some (.mapIter (some b) m.length (seen.push j) m.length) := hh.ok (hIt b r m.length (seen.push j)) hi
  have hlen : (entriesM 0 (encM kv vv m)).length = m.length := by rw [entriesM_len, hl]
  have hat : ∀ (i : Nat) (h : i < m.length), (entriesM 0 (encM kv vv m))[i]'(by rw [hlen]; exact h) = ⟨kv m[i].1, vv m[i].2, i⟩ := fun i h => by
    rw [entriesM_get _ _ _ (by rw [hl]; exact h)]
    simp [encM]
  have hf : (entriesM 0 (encM kv vv m)).toArray.find? (·.born == j) = some ⟨kv m[j].1, vv m[j].2, j⟩ := by
    rw [← Array.find?_toList]
    rw [List.find?_eq_some_iff_getElem]
    refine ⟨by simp, j, by simp; rw [hlen]; exact hj, by simpa using hat j hj, fun i hi => ?_⟩
    have := hat i (by omega)
    simp [this]; omega
  refine ⟨.tuple #[kv m[j].1, vv m[j].2], w, ?_, Ext.refl _, [kv m[j].1, vv m[j].2], rfl, rfl, fun i e x he hx => ?_⟩
  · unfold execOp
    have : (Instr.entry (.pointer (some ⟨r, 0, none⟩))).run P w = .ok (.tuple #[kv m[j].1, vv m[j].2]) w := by
      simp only [Instr.entry, Sem.run_bind, run_getObj_at hr, MapKept.run_getObj_map hb, Result.andThen, Array.back?_push, bne_self_eq_false, Bool.false_eq_true, if_false, hf]
      rfl
    simp only [e1, Sem.run_bind, this, Result.andThen_ok, Sem.run_pure]
  · match i, he, hx with
    | 0, he, hx => cases he; cases hx; rfl
    | 1, he, hx => cases he; cases hx; rfl
end
end Go.Proofs.YtkedmlandjlogaaGreat
namespace Go.Proofs.YtkedmlandjlogaaGreat
open Go.RowKit
section
variable {P : Program} {ops : Array Oper} {hp : List HObj} {o : Oper} {fr : List Dat} {d d2 : Dat} {Q : Post} {rest : List Oper}
variable {dst : Option Tmp} {ty : TypeId} {ps : String} {af : Array Edge} {t k e : TypeId} {z : Value} {K V : Type} [DecidableEq K] {kv : K → Value} {ok : K → Prop} {vv : V → Value} {b r : Nat} {m : List (K × V)}
theorem rd_t2 {I : Nat → Prop} {w : World} (u : Value) (n : Int) : (dT [dX u, dI n]).rd I w (.tuple #[u, .int .i64 n]) := ⟨[u, .int .i64 n], rfl, rfl, fun i e x he hx => by
  match i, he, hx with
  | 0, he, hx => cases he; cases hx; rfl
  | 1, he, hx => cases he; cases hx; rfl⟩
theorem SW.entOld {x y : Operand} {v : K} {q : Nat} (T : MapT P t k e z) (H : KeyT P k kv ok) (hx : OpD fr x (dX (.map (some b)))) (hy : OpD fr y d) (hd : IsV d (kv v)) (ho : ok v) (hok : ∀ p ∈ m, ok p.1) (hn : (m.map (·.1)).Nodup) (hq : q < m.length) (hqv : m[q].1 = v) (zv : V) (hz : vv zv = z) :
    SW P ops (hM b kv vv m :: hp) (fun _ : Unit => hM b kv vv m :: hp) (fun _ => dT [dX (vv m[q].2), dI q]) { dst := dst, op := .mapEntry t x y, type := ty, pos := ps, after := af, guard := none } fr := ⟨rfl, fun {P0 B w0 w a} hh hon KK QQ hkk => by
  have e1 : a.eval x = _ := hx.get (by simp [Op.operands]) hon
  have e2 := hd.is _ _ _ (hy.get (by simp [Op.operands]) hon)
  rcases run_entry T H hok ho (hh.ok (hM b kv vv m) (by simp)) with ⟨j, hj, hjv, hr⟩ | ⟨hne, hr⟩
  · have hjq : j = q := by
      have hp := List.pairwise_iff_getElem.1 hn
      have a1 : j < (m.map (·.1)).length := by simpa using hj
      have a2 : q < (m.map (·.1)).length := by simpa using hq
      have h3 : (m.map (·.1))[j] = (m.map (·.1))[q] := by simp [hjv, hqv]
      rcases Nat.lt_trichotomy j q with h | h | h
      · exact absurd h3 (hp j q a1 a2 h)
      · exact h
      · exact absurd h3.symm (hp q j a2 a1 h)
    subst hjq
    have hrun : (execOp a.eval { dst := dst, op := .mapEntry t x y, type := ty, pos := ps, after := af, guard := none }).run P w = .ok (.value (.tuple #[vv m[j].2, .int .i64 j])) (w.putObj b (mapObj (encM kv vv m))) := by
      unfold execOp
      simp only [e1, e2, Sem.run_bind, hr, Result.andThen_ok, Sem.run_pure]
      rfl
    unfold Oper.wp
    rw [hrun]
    exact hkk () _ _ (Hp.putObj hh) (fun d u hd => Hp.putObj_rd hd) (rd_t2 _ _)
  · exact absurd hqv (hne _ (List.getElem_mem hq))⟩
theorem SW.entNew {x y : Operand} {v : K} (zv : V) (hz : vv zv = z) (T : MapT P t k e z) (H : KeyT P k kv ok) (hx : OpD fr x (dX (.map (some b)))) (hy : OpD fr y d) (hd : IsV d (kv v)) (ho : ok v) (hok : ∀ p ∈ m, ok p.1) (hne : ∀ p ∈ m, p.1 ≠ v) :
    SW P ops (hM b kv vv m :: hp) (fun _ : Unit => hM b kv vv (m ++ [(v, zv)]) :: hp) (fun _ => dT [dX z, dI m.length]) { dst := dst, op := .mapEntry t x y, type := ty, pos := ps, after := af, guard := none } fr := ⟨rfl, fun {P0 B w0 w a} hh hon KK QQ hkk => by
  have e1 : a.eval x = _ := hx.get (by simp [Op.operands]) hon
  have e2 := hd.is _ _ _ (hy.get (by simp [Op.operands]) hon)
  rcases run_entry T H hok ho (hh.ok (hM b kv vv m) (by simp)) with ⟨j, hj, hjv, hr⟩ | ⟨_, hr⟩
  · exact absurd hjv (hne _ (List.getElem_mem hj))
  · have hrun : (execOp a.eval { dst := dst, op := .mapEntry t x y, type := ty, pos := ps, after := af, guard := none }).run P w = .ok (.value (.tuple #[z, .int .i64 m.length])) (w.putObj b (mapObj (encM kv vv (m ++ [(v, zv)])))) := by
      unfold execOp
      simp only [e1, e2, Sem.run_bind, hr zv hz, Result.andThen_ok, Sem.run_pure]
      rfl
    unfold Oper.wp
    rw [hrun]
    exact hkk () _ _ (Hp.putObj hh) (fun d u hd => Hp.putObj_rd hd) (rd_t2 _ _)⟩
theorem WL.keepM {R : Rel V} [Good R] {s : Tmp} (hs : fr[s]? = some (dP 1 false (dX (.map (some b))))) (hvv : ∀ I w (y : V), R I w (vv y) y) (h : WL P ops Q rest (fr.set s (dP 1 false (dS (MapR kv R) m))) hp) : WL P ops Q rest fr (hM b kv vv m :: hp) := WL.of fun P0 B w0 w a hh hf => by
  refine h.on hh.drop ⟨hf.defers, by rw [hf.size, List.length_set], fun t' d' hd' => ?_⟩
  by_cases htt : s = t'
  · subst htt
    rw [List.getElem?_set] at hd'
    simp only [if_true] at hd'
    split at hd'
    · cases hd'
      obtain ⟨b', off, u, h1, h2, h3⟩ := hf.rd s _ hs
      have hown := hh.own (hM b kv vv m) (by simp) b rfl
      have hb : w.heap[b]? = some (mapObj _) := hh.ok (hM b kv vv m) (by simp)
      refine ⟨b', off, u, h1, ⟨Imm.sub _ h2.1, h2.2⟩, b, m.map fun p => vv p.2, h3, ⟨.inr hown.1, fun o ho hk => (List.pairwise_cons.1 hh.apart).1 o ho b rfl hk⟩, by simp, ?_, fun k h1 h2 => ?_⟩
      · rw [hb]
        congr 2
        unfold encM
        rw [List.zip_map', List.map_map]
        rfl
      · simp only [List.getElem_map]
        exact hvv _ _ _
    · cases hd'
  · rw [List.getElem?_set_ne htt] at hd'
    exact d'.weak (hf.rd t' d' hd') Imm.sub
end
end Go.Proofs.YtkedmlandjlogaaGreat
namespace Go.Proofs.YtkedmlandjlogaaGreat
abbrev CntM := List (List Vx × Int)
def addC (m : CntM) (f : List Vx) : CntM := putM m f ((lookM m f).getD 0 + 1)
def cntM (fs : Cx) : CntM := fs.foldl addC []
theorem lookM_keys {K V : Type} [DecidableEq K] {m : List (K × V)} {x : K} : (lookM m x).isSome = true ↔ x ∈ m.map (·.1) := by
  unfold lookM
  rw [Option.isSome_map, List.find?_isSome, List.mem_map]
  constructor
  · rintro ⟨p, hp, h⟩; exact ⟨p, hp, by simpa using h⟩
  · rintro ⟨p, hp, h⟩; exact ⟨p, hp, by simpa using h⟩
theorem putM_keys {K V : Type} [DecidableEq K] {m : List (K × V)} {x : K} {v : V} (hn : (m.map (·.1)).Nodup) : ((putM m x v).map (·.1)).Nodup ∧ ∀ u, u ∈ (putM m x v).map (·.1) ↔ u = x ∨ u ∈ m.map (·.1) := by
  unfold putM
  split
  · rename_i h
    have e : (m.map fun p => if p.1 = x then (x, v) else p).map (·.1) = m.map (·.1) := by
      rw [List.map_map]
      refine List.map_congr_left fun p _ => ?_
      show (if p.1 = x then (x, v) else p).1 = p.1
      split
      · rename_i h; exact h.symm
      · rfl
    rw [e]
    refine ⟨hn, fun u => ⟨.inr, ?_⟩⟩
    rintro (rfl | hu)
    · exact lookM_keys.1 h
    · exact hu
  · rename_i h
    have hx : x ∉ m.map (·.1) := fun hx => h (lookM_keys.2 hx)
    rw [List.map_append]
    refine ⟨?_, fun u => ?_⟩
    · rw [List.nodup_append]
      refine ⟨hn, by simp, fun a ha b hb => ?_⟩
      have : b = x := by simpa using hb
      subst this
      intro hab
      subst hab
      exact hx ha
    · rw [List.mem_append]
      simp only [List.map_cons, List.map_nil, List.mem_singleton]
      exact or_comm
theorem cntM_keys (fs : Cx) : ((cntM fs).map (·.1)).Nodup ∧ ∀ u, u ∈ (cntM fs).map (·.1) ↔ u ∈ fs := by
  have go : ∀ (fs : Cx) (m : CntM), (m.map (·.1)).Nodup → ((fs.foldl addC m).map (·.1)).Nodup ∧ ∀ u, u ∈ (fs.foldl addC m).map (·.1) ↔ u ∈ fs ∨ u ∈ m.map (·.1) := by
    intro fs
    induction fs with
    | nil => intro m hm; exact ⟨hm, fun u => by simp⟩
    | cons f fs ih =>
      intro m hm
      obtain ⟨h1, h2⟩ := putM_keys (x := f) (v := (lookM m f).getD 0 + 1) hm
      obtain ⟨h3, h4⟩ := ih (addC m f) h1
      refine ⟨h3, fun u => ?_⟩
      show u ∈ (fs.foldl addC (addC m f)).map (·.1) ↔ _
      rw [h4]
      unfold addC
      rw [h2, List.mem_cons]
      constructor
      · rintro (h | h | h) <;> simp [h]
      · rintro ((h | h) | h) <;> simp [h]
  have := go fs [] (by simp)
  exact ⟨this.1, fun u => by rw [cntM, this.2]; simp⟩
theorem cntM_count (fs : Cx) (f : List Vx) : (lookM (cntM fs) f).getD 0 = (fs.count f : Int) := by
  have go : ∀ (fs : Cx) (m : CntM), (lookM (fs.foldl addC m) f).getD 0 = (lookM m f).getD 0 + (fs.count f : Int) := by
    intro fs
    induction fs with
    | nil => intro m; simp
    | cons g fs ih =>
      intro m
      rw [List.foldl_cons, ih]
      unfold addC
      rw [lookM_putM, List.count_cons]
      by_cases h : f = g
      · subst h
        rw [if_pos rfl]
        simp; omega
      · rw [if_neg h]
        have : (g == f) = false := by simpa using Ne.symm h
        simp [this]
  have := go fs []
  rw [cntM, this]
  simp [lookM]
theorem cntM_at (fs : Cx) {j : Nat} (h : j < (cntM fs).length) : (cntM fs)[j].2 = (fs.count (cntM fs)[j].1 : Int) := by
  have := cntM_count fs (cntM fs)[j].1
  rw [lookM_some (cntM_keys fs).1 h] at this
  exact this
def fcsC (l : Cx) (d : Nat) : Cx := (l.map (subsV d)).flatten
theorem fcsC_snoc {l : Cx} {d i : Nat} (h : i < l.length) : fcsC (l.take (i + 1)) d = fcsC (l.take i) d ++ subsV d l[i] := by
  unfold fcsC
  rw [take_snoc' h, List.map_append, List.flatten_append]
  simp
theorem fcsC_mem {l : Cx} {d : Nat} {f : List Vx} : f ∈ fcsC l d ↔ f ∈ allC l d := by
  unfold fcsC
  rw [List.mem_flatten, allC_mem]
  constructor
  · rintro ⟨x, hx, hf⟩
    obtain ⟨s, hs, rfl⟩ := List.mem_map.1 hx
    exact ⟨s, hs, hf⟩
  · rintro ⟨s, hs, hf⟩
    exact ⟨_, List.mem_map_of_mem hs, hf⟩
theorem fcsC_len {l : Cx} {d : Nat} (h : ∀ s ∈ l, s.length ≤ 8) : ∀ n, n ≤ l.length → (fcsC (l.take n) d).length ≤ 256 * n
  | 0, _ => by simp [fcsC]
  | n + 1, hn => by
    rw [fcsC_snoc (by omega), List.length_append]
    have h1 := fcsC_len (d := d) h n (by omega)
    have h2 := Nat.le_trans (subsV_len d l[n]) (Nat.pow_le_pow_right (by decide) (h _ (List.getElem_mem (show n < l.length by omega))) : 2 ^ l[n].length ≤ 2 ^ 8)
    omega
theorem sub_inside {f s : List Vx} (hf : Asc f) (hs : Asc s) : f.Sublist s ↔ insideV f s = true := by
  constructor
  · intro h
    unfold insideV
    rw [List.all_eq_true]
    intro x hx
    simpa using h.subset hx
  · intro h
    have hsub : ∀ x ∈ f, x ∈ s := fun x hx => by
      have := List.all_eq_true.1 h x hx
      simpa using this
    have e : sharedV s f true = f := asc_ext (asc_shared hs) hf fun x => by
      rw [mem_shared]
      constructor
      · intro ⟨_, h⟩; simpa using h
      · intro hx; exact ⟨hsub x hx, by simpa using hx⟩
    rw [← e]; exact shared_sub
theorem subs_nodup {s : List Vx} (h : Asc s) (d : Nat) : (subsV d s).Nodup := List.Pairwise.imp (fun {a b} hab hc => by
  subst hc; rw [cmpL_irr] at hab; omega) (subsV_sorted d s h)
theorem count_le_one : ∀ {l : Cx}, l.Nodup → ∀ f, l.count f ≤ 1
  | [], _, f => by simp
  | x :: l, h, f => by
    rw [List.nodup_cons] at h
    rw [List.count_cons]
    by_cases hx : x = f
    · subst hx
      rw [List.count_eq_zero.2 h.1]; simp
    · have : (x == f) = false := by simpa using hx
      rw [this]
      have := count_le_one h.2 f
      simpa using this
theorem count_subs {s f : List Vx} {d : Nat} (hs : Asc s) : (subsV d s).count f = if f ∈ subsV d s then 1 else 0 := by
  split
  · rename_i h
    have h1 : 0 < (subsV d s).count f := List.count_pos_iff.2 h
    have h2 := count_le_one (subs_nodup hs d) f
    omega
  · rename_i h; exact List.count_eq_zero.2 h
theorem count_fcs : ∀ {l : Cx} {d : Nat} {f : List Vx}, (∀ s ∈ l, Asc s) → Asc f → f.length = d → (fcsC l d).count f = (aroundC l f).length
  | [], d, f, _, _, _ => by simp [fcsC, aroundC]
  | s :: l, d, f, hs, hf, hd => by
    have e : fcsC (s :: l) d = subsV d s ++ fcsC l d := by unfold fcsC; simp
    rw [e, List.count_append, count_subs (hs s (by simp)), count_fcs (fun x hx => hs x (by simp [hx])) hf hd]
    have h1 : f ∈ subsV d s ↔ insideV f s = true := by
      rw [subsV_mem, ← sub_inside hf (hs s (by simp))]
      exact ⟨fun h => h.1, fun h => ⟨h, hd⟩⟩
    unfold aroundC
    by_cases hi : insideV f s = true
    · rw [if_pos (h1.2 hi), List.filter_cons_of_pos (by simpa using hi), List.length_cons]; omega
    · rw [if_neg (fun h => hi (h1.1 h)), List.filter_cons_of_neg (by simpa using hi)]; omega
def bndP (l : Cx) : Cx × Int := if chkC l ≠ 0 then ([], chkC l) else if dimC l < 1 ∨ sizeP l = false then ([], 15) else if (allC l (dimC l).toNat).all (okC l) = true then ((allC l (dimC l).toNat).filter (oneC l), 0) else ([], 15)
theorem max_same {l : Cx} {d : Nat} (h : ∀ s ∈ l, s.length = d) (hd : 0 < d) {zs : Cx} (ha : AscL zs) (hm : ∀ x, x ∈ zs ↔ x ∈ l) : maxC l = zs := by
  refine ascL_ext (maxC_asc l) ha fun x => ?_
  rw [maxC_mem, hm]
  constructor
  · exact fun h => h.1
  · intro hx
    refine ⟨hx, ?_⟩
    unfold topC
    rw [h x hx, decide_eq_true hd, Bool.true_and, Bool.not_eq_true', Bool.eq_false_iff]
    intro hc
    obtain ⟨y, hy, hl, _⟩ := coveredC_iff.1 hc
    rw [h x hx, h y hy] at hl
    omega
theorem pure_len {l : Cx} (h : sizeP l = true) : ∀ s ∈ l, (s.length : Int) = dimC l + 1 := fun s hs => by
  obtain ⟨m1, m2⟩ := most_max l
  have h1 := m1 s hs
  have h3 := most_dim l
  rcases m2 with m2 | ⟨t, ht, m2⟩
  · omega
  · have := sizeP_iff.1 h s hs t ht
    omega
theorem fcs_pure {l : Cx} {d : Nat} (h : ∀ s ∈ l, s.length = d + 1) : (fcsC l d).length = l.length * (d + 1) := by
  induction l with
  | nil => simp [fcsC]
  | cons s l ih =>
    have e : fcsC (s :: l) d = subsV d s ++ fcsC l d := by unfold fcsC; simp
    rw [e, List.length_append, ih (fun x hx => h x (by simp [hx])), subsV_most (h s (by simp)), List.length_cons, Nat.succ_mul]
    omega
end Go.Proofs.YtkedmlandjlogaaGreat
