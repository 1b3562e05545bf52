/-
  slices.SortFunc of a row of vertices of the call's own: sorted where it lies.
-/
import Derived.Test.YtjojmdngogineaaMOrd
import Derived.Test.YtjojmdngogineaaShf26
namespace Go.Proofs.Ytjojmdngogineaa
open Go.RowKit Go.Sort Go.Shelf

def encV (x : Vx) : List Value := [.int .i64 x.1, .int .i64 x.2]
theorem swoV : SWO (ltOf cmpV) where
  irrefl x := by simp [ltOf, cmpV_eq.2 (rfl : x = x)]
  trans x y z h h' := by
    simp only [ltOf, decide_eq_true_eq] at *
    exact cmpV_trans h h'
  ntrans x y z h h' := by
    simp only [ltOf, decide_eq_false_iff_not] at *
    intro hc
    rcases cmpV_cases x y with k | k | k
    · omega
    · have := cmpV_trans (a := y) (b := x) (c := z) (by omega) hc
      exact h' this
    · exact h' (k.2.2 ▸ hc)
theorem flat_list {d : Array Vx} : (flatK encV 2 d).toList = (d.toList.map encV).flatten := by
  apply List.ext_getElem?
  intro t
  have hl : ∀ u ∈ d.toList.map encV, u.length = 2 := fun u hu => by obtain ⟨x, _, rfl⟩ := List.mem_map.1 hu; rfl
  have hlen : ((d.toList.map encV).flatten).length = d.size * 2 := by
    rw [List.length_flatten]
    have : (List.map List.length (d.toList.map encV)) = List.replicate d.size 2 := by
      rw [List.eq_replicate_iff]
      refine ⟨by simp, fun b hb => ?_⟩
      obtain ⟨u, hu, rfl⟩ := List.mem_map.1 hb
      exact hl u hu
    rw [this]; simp
  by_cases ht : t < d.size * 2
  · have h1 : t / 2 < (d.toList.map encV).length := by simp; omega
    have h2 : t % 2 < 2 := Nat.mod_lt _ (by decide)
    have h3 : ((d.toList.map encV)[t / 2]'h1)[t % 2]? = some ((encV (d[t / 2]'(by omega)))[t % 2]'(by simp [encV]; omega)) := by
      simp
    have h4 := flatten_get hl h1 h3
    have h5 : t / 2 * 2 + t % 2 = t := by omega
    rw [h5] at h4
    rw [h4]
    have h6 := get_flatK encV 2 d t ht
    rw [Array.getElem?_toList]
    have h7 : t < (flatK encV 2 d).size := by simp; omega
    rw [getElem!_pos _ t h7, getElem!_pos d (t / 2) (by omega), getElem!_pos _ (t % 2) (by simp [encV]; omega)] at h6
    rw [Array.getElem?_eq_getElem h7, h6]
  · rw [List.getElem?_eq_none (by simp; omega), List.getElem?_eq_none (by omega)]
section
variable {w : World} {g n cap : Nat} {os : Array Obj} {cur : Array Value} {e : TypeId} {fz : Nat × Nat}
theorem holds_of_row {F : Array Value} (hb : w.heap[g]? = some (.cells cur e (0, 0))) (ht : cur.toList.take F.size = F.toList) : Holds id w g 0 F := by
  intro j hj
  refine ⟨?_, by simp [World.frozen?, hb]⟩
  have h1 : (cur.toList.take F.size)[j]? = F.toList[j]? := by rw [ht]
  rw [List.getElem?_take_of_lt hj] at h1
  simp only [World.cell?, hb, Nat.zero_add]
  simp only [Option.isSome_none, Bool.false_eq_true, if_false]
  rw [← Array.getElem?_toList, h1, getElem!_pos _ j hj]
  simp [hj]
theorem heap_sortedF (F : Array Value) (hb : w.heap[g]? = some (.cells cur e fz)) :
    (grow (putRow id (Sort.ahead w n) g 0 F) os).heap[g]? = some (.cells (putCells id 0 F cur) e fz) := by
  have hg : g < w.heap.size := (Array.getElem?_eq_some_iff.1 hb).1
  rw [heap_grow_old _ _ (by simpa using hg)]
  simp [putRow, mapBlock, Sort.ahead, Array.getElem?_modify, hb, onCells]
theorem grownBy_sortedF (F : Array Value) : w.grownBy (grow (putRow id (Sort.ahead w n) g 0 F) os) (some g) := by
  refine ⟨rfl, rfl, rfl, by simp, fun k hk hne => ?_⟩
  rw [heap_grow_old _ _ (by simpa using hk)]
  have : g ≠ k := fun e => hne (by rw [e])
  simp [putRow, mapBlock, Sort.ahead, Array.getElem?_modify, this]
theorem take_putCellsF (cur F : Array Value) (h : F.size ≤ cur.size) : (putCells id 0 F cur).toList.take F.size = F.toList := by
  apply List.ext_getElem?
  intro j
  by_cases hj : j < F.size
  · rw [List.getElem?_take_of_lt hj, Array.getElem?_toList]
    simp [putCells, hj, show j < cur.size by omega]
  · rw [List.getElem?_take_eq_none (by omega), List.getElem?_eq_none (by simp; omega)]
end
section
variable {ops : Array Oper} {hp : List HObj} {fr : List Dat} {Q : Post} {rest : List Oper} {dst : Option Tmp} {ty : TypeId} {ps : String} {af : Array Edge}
theorem us_encV {P : Nat → Prop} {w : World} {us : List (List Value)} {xs : List Vx} {v : Value} (hl : us.length = xs.length) (h : ∀ k (h : k < us.length) (h' : k < xs.length), RV (fun b => P b ∧ v.ownBlock ≠ some b) w (.agg us[k].toArray) xs[k]) : us = xs.map encV := by
  apply List.ext_getElem (by simp [hl])
  intro k h1 h2
  have := h k h1 (by omega)
  have h3 : Value.agg us[k].toArray = .agg #[.int .i64 xs[k].1, .int .i64 xs[k].2] := this
  injection h3 with h3
  rw [List.getElem_map]
  exact List.toArray_inj h3
/-- slices.SortFunc of a row of the call's own -/
theorem WL.sortV {x : Operand} {v : Value} {e : TypeId} {xs : List Vx} {ats : Array TypeId} (hx : OpD fr x (dX v)) (hne : 0 < xs.length) (hlen : xs.length < 4611686018427387904)
    (h : ∀ ys : List Vx, ys.Perm xs → ys.Pairwise (fun a b => ¬ cmpV b a < 0) → WL Try.prog ops Q rest (setD fr dst dA) (hRowK v e 2 RV ys :: hp)) :
    WL Try.prog ops Q ({ dst := dst, op := .call { callee := .value (.func 78), args := #[x, .func 79], argTypes := ats }, type := ty, pos := ps, after := af, guard := none } :: rest) fr (hRowK v e 2 RV xs :: hp) := by
  refine WL.of fun P0 B w0 w a hh hf => ?_
  have hok := hh.ok (hRowK v e 2 RV xs) (by simp)
  obtain ⟨us, h1, h2, h0, h3, h4⟩ := hok
  have hus := us_encV h1 h4
  subst hus
  have hev : a.eval x = v := hx.ev hf
  obtain ⟨hfl, hv⟩ := h3
  rcases hv with ⟨_, hz⟩ | ⟨g, cap, cur, hv, hB, hg, hc1, hc2, hc3, hc4⟩
  · omega
  have hgb : g < w.heap.size := (Array.getElem?_eq_some_iff.1 hg).1
  have hF : (flatK encV 2 xs.toArray).toList = (xs.map encV).flatten := by rw [flat_list]
  have hFs : (flatK encV 2 xs.toArray).size = xs.length * 2 := by simp
  have hH : HoldsK encV 2 w g 0 xs.toArray := holds_of_row hg (by rw [hFs, hF]; exact hc4)
  have hcon := AnyQ.slices_SortFunc Try.sortV 2 Try.isAgg56 Try.sizeOf56 encV (fun _ => rfl) (fun x v hv => by simp [encV] at hv; rcases hv with rfl | rfl <;> rfl) cmpV swoV 79 #[] g 0 cap xs.toArray w Try.call79
    (fun _ _ _ _ x y => M.order_x x y _) hH hgb (by simpa using hlen)
  change Calls Try.prog 78 _ _ _ at hcon
  subst hv
  have hrun : (execOp a.eval { dst := dst, op := .call { callee := .value (.func 78), args := #[x, .func 79], argTypes := ats }, type := ty, pos := ps, after := af, guard := none }).run Try.prog w = .ok (.enter 78 #[.slice (some ⟨g, 0, none⟩) xs.toArray.size cap, .func (.func 79) #[] #[]]) w := by
    unfold execOp
    simp only [resolve]
    have he : (#[x, Operand.func 79] : Array Operand).map a.eval = #[.slice (some ⟨g, 0, none⟩) xs.toArray.size cap, .func (.func 79) #[] #[]] := by simp [hev]; rfl
    rw [he]
    simp [Act.eval, Deferred.ofValue, invoke, Try.call78]
  refine wpList_plain rfl fun K hK => ?_
  unfold Oper.wp
  rw [hrun]
  refine hcon.mono fun e' w' ⟨he, d', n, os, hp1, hs, hw'⟩ => ?_
  subst he
  subst hw'
  obtain ⟨q1, _, q3⟩ := hp1
  have hsz : d'.size = xs.length := by simpa using q1
  have hperm : d'.toList.Perm xs := by
    have : xs.toArray.size = d'.size := by simp [hsz]
    rw [this] at q3
    have e1 : d'.extract 0 d'.size = d' := by simp
    have e2 : xs.toArray.extract 0 d'.size = xs.toArray := by rw [hsz]; simp
    rw [e1, e2] at q3
    exact q3
  have hsort : d'.toList.Pairwise (fun a b => ¬ cmpV b a < 0) := by
    rw [List.pairwise_iff_getElem]
    intro i j hi hj hij
    have hi' : i < d'.size := by simpa using hi
    have hj' : j < d'.size := by simpa using hj
    have := hs i j (Nat.zero_le _) hij (by simp; omega)
    rw [getElem!_pos d' i hi', getElem!_pos d' j hj'] at this
    simpa [ltOf] using this
  have hF' : (flatK encV 2 d').toList = (d'.toList.map encV).flatten := flat_list
  have hFs' : (flatK encV 2 d').size = d'.toList.length * 2 := by simp
  have hgr : w.grownBy (sortWorldK encV 2 w g 0 n d' os) (hRowK (.slice (some ⟨g, 0, none⟩) xs.length cap) e 2 RV xs).blk := grownBy_sortedF _
  have hlen' : d'.toList.length = xs.length := by simpa using hsz
  have hok : (hRowK (.slice (some ⟨g, 0, none⟩) xs.length cap) e 2 RV d'.toList).ok (fun k => Imm P0 B (hRowK (.slice (some ⟨g, 0, none⟩) xs.length cap) e 2 RV xs :: hp) k ∧ k < w.heap.size) (sortWorldK encV 2 w g 0 n d' os) := by
    refine ⟨d'.toList.map encV, by simp, fun u hu => ?_, by decide, ⟨?_, .inr ⟨g, cap, putCells _root_.id 0 (flatK encV 2 d') cur, ?_, hB, heap_sortedF _ hg, by omega, hc2, by simp [putCells, hc3], ?_⟩⟩, fun k h h' => ?_⟩
    · obtain ⟨y, _, rfl⟩ := List.mem_map.1 hu
      exact ⟨rfl, by simp [encV, Value.oneCell']⟩
    · rw [← hF', Array.length_toList, hFs']
    · rw [hlen']
    · rw [← hFs', ← hF']
      exact take_putCellsF _ _ (by rw [hFs', hlen', hc3]; exact Nat.mul_le_mul_right _ hc1)
    · show Value.agg _ = _
      rw [List.getElem_map]
      rfl
  exact hK _ _ ((h d'.toList hperm hsort).on (hh.write hgr (.inl rfl) hok) (Fr.put (hf.mono fun _ _ hd => Hp.written (o' := hRowK (.slice (some ⟨g, 0, none⟩) xs.length cap) e 2 RV d'.toList) hgr (.inl rfl) hd) (d := dA) trivial))
end
end Go.Proofs.Ytjojmdngogineaa
