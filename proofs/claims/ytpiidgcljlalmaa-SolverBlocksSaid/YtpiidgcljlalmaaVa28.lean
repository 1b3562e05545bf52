/- Part 28: walks by contracts, and plain laws. -/
import Derived.Deep.RegionLaw
import Derived.Lib.SliceRun
import Derived.Shelf.Abstract
import Derived.Test.YtpiidgcljlalmaaVa27
set_option linter.unusedVariables false
set_option linter.unusedSimpArgs false
set_option linter.unusedSectionVars false
namespace Go.Proofs.Ytpiidgcljlalmaa
open Go.RowKit

theorem setCells_setRow (g : Nat) (t : TypeId) : ∀ (vs : List Value) (o : Nat) (cur : Array Value) (w : World), w.heap[g]? = some (.cells cur t (0, 0)) → o + vs.length ≤ cur.size →
    w.setCells g o vs = w.setRow g (cur.toList.take o ++ vs ++ cur.toList.drop (o + vs.length)).toArray
  | [], o, cur, w, hg, _ => by
    simp only [World.setCells, List.append_nil, List.length_nil, Nat.add_zero, List.take_append_drop, Array.toArray_toList]
    exact (setRow_self w g cur t (0, 0) hg).symm
  | v :: rest, o, cur, w, hg, hl => by
    have ih := setCells_setRow g t rest (o + 1) (cur.setIfInBounds o v) (w.setRow g (cur.setIfInBounds o v)) (setRow_heap w g cur _ t _ hg) (by simp at hl ⊢; omega)
    rw [World.setCells, setCell_eq_setRow w g o cur t (0, 0) v hg, ih, setRow_setRow]
    congr 2
    have e := list_seg_step cur.toList o v rest (by simp at hl ⊢; omega)
    simpa [Array.toList_setIfInBounds] using e

theorem Own.mono {α : Type} {R : Rel α} [Good R] {B B' : Nat} {e : TypeId} {P P' : Nat → Prop} {w : World} {v : Value} {xs : List α} (h : Own B e R P w v xs) (hB : B' ≤ B) (hP : ∀ k, P k → P' k) : Own B' e R P' w v xs := by
  obtain ⟨us, hl, ho, he⟩ := h
  refine ⟨us, hl, ⟨ho.1, ho.2.imp id fun ⟨g, cap, cur, a, b, c⟩ => ⟨g, cap, cur, a, Nat.le_trans hB b, c⟩⟩, fun k h1 h2 => ⟨(he k h1 h2).1, Good.weak (he k h1 h2).2 fun b hb => ⟨hP b hb.1, hb.2⟩⟩⟩

theorem remI_cells {α : Type} {cur : List α} {i n : Nat} (hi : i < n) (hn : n ≤ cur.length) :
    (cur.take i ++ (cur.take n).drop (i + 1) ++ cur.drop (i + (n - (i + 1)))).take (n - 1) = remI (cur.take n) i := by
  unfold remI
  have h1 : (cur.take i ++ (cur.take n).drop (i + 1)).length = n - 1 := by simp; omega
  rw [← h1, List.take_left' rfl, List.take_take, Nat.min_eq_left (by omega)]

theorem remI_get {α : Type} {l : List α} {i k : Nat} (hi : i < l.length) (h : k < (remI l i).length) (h' : (if k < i then k else k + 1) < l.length) : (remI l i)[k] = l[if k < i then k else k + 1] := by
  have e : (remI l i)[k]? = l[if k < i then k else k + 1]? := by
    unfold remI
    have hti : (l.take i).length = i := by simp; omega
    by_cases hk : k < i
    · rw [if_pos hk, List.getElem?_append_left (by omega), List.getElem?_take, if_pos hk]
    · rw [if_neg hk, List.getElem?_append_right (by omega), List.getElem?_drop, hti]
      congr 1; omega
  rw [List.getElem?_eq_getElem h, List.getElem?_eq_getElem h'] at e
  exact Option.some.inj e

set_option maxRecDepth 100000 in
set_option maxHeartbeats 4000000 in
theorem idel_row (g i n cap : Nat) (cur : Array Value) (w : World) (hg : w.heap[g]? = some (.cells cur 3 (0, 0))) (hi : i < n) (hn : n ≤ cap) (hm : cap ≤ maxLen) (hs : cur.size = cap) (h1 : ∀ u ∈ cur.toList.take n, u.oneCell' = true) :
    Calls Try.prog 64 #[.slice (some ⟨g, 0, none⟩) n cap, .int .i64 (i : Int), .int .i64 ((i : Int) + 1)] w fun e w' => e = .returned (.slice (some ⟨g, 0, none⟩) (n - 1) cap) ∧ w.grownBy w' (some g) ∧
      ∃ cur', w'.heap[g]? = some (.cells cur' 3 (0, 0)) ∧ cur'.size = cap ∧ cur'.toList.take (n - 1) = remI (cur.toList.take n) i := by
  obtain ⟨i0, hi0, hz0, hz1, hz2⟩ := info_parts elI.info
  simp only [maxLen] at hm
  have hcell : ∀ j, j < cap → w.cell? ⟨g, j, none⟩ = cur[j]? := fun j hj => by simp [World.cell?, hg]
  -- what is moved to the left
  obtain ⟨news, hnews⟩ : ∃ news, news = (cur.toList.take n).drop (i + 1) := ⟨_, rfl⟩
  have hlen : news.length = n - (i + 1) := by rw [hnews]; simp; omega
  obtain ⟨A, hA, hsrc⟩ : ∃ A : Addr, (if cap = i + 1 then some (⟨g, 0, none⟩ : Addr) else some ⟨g, i + 1, none⟩) = some A ∧ Hid (∀ t u, news[t]? = some u → w.drew.cell? (A.add t) = some u) := by
    by_cases h : cap = i + 1
    · refine ⟨⟨g, 0, none⟩, by simp [h], fun t u hu => ?_⟩
      have h0 : news.length = 0 := by rw [hlen]; omega
      rw [List.length_eq_zero_iff.1 h0] at hu
      simp at hu
    · refine ⟨⟨g, i + 1, none⟩, by simp [h], fun t u hu => ?_⟩
      have ht : t < n - (i + 1) := by have := (List.getElem?_eq_some_iff.1 hu).1; rwa [hlen] at this
      rw [hnews, List.getElem?_drop, List.getElem?_take, if_pos (by omega), Array.getElem?_toList] at hu
      rw [Addr.add_lit]
      exact (hcell (i + 1 + t) (by omega)).trans hu
  have s1 : Hid (news.length = (n - (i + 1)) * 1) := by show _ = _; rw [Nat.mul_one]; exact hlen
  have s2 : Hid (∀ u ∈ news, u.oneCell' = true) := fun u hu => h1 u (by rw [hnews] at hu; exact List.mem_of_mem_drop hu)
  have s3 : Hid (∀ t, t < news.length → (w.drew.cell? ⟨g, 0 + i * 1 + t, none⟩).isSome = true ∧ w.drew.frozen? ⟨g, 0 + i * 1 + t, none⟩ = false) := fun t ht => by
    rw [hlen] at ht
    refine ⟨?_, by show w.frozen? _ = false; simp [World.frozen?, hg]⟩
    show (w.cell? _).isSome = true
    rw [Nat.mul_one, Nat.zero_add, hcell _ (by omega)]
    simp; omega
  obtain ⟨W1, hW1⟩ : ∃ W1, W1 = w.drew.setCells g (0 + i * 1) news := ⟨_, rfl⟩
  obtain ⟨cur1, hcur1⟩ : ∃ cur1, cur1 = (cur.toList.take i ++ news ++ cur.toList.drop (i + news.length)).toArray := ⟨_, rfl⟩
  have hs1 : cur1.size = cap := by rw [hcur1]; simp [hlen]; omega
  have hg1 : W1.heap[g]? = some (.cells cur1 3 (0, 0)) := by
    rw [hW1, Nat.mul_one, Nat.zero_add, setCells_setRow g 3 news i cur w.drew hg (by omega), ← hcur1]
    exact setRow_heap w.drew g cur cur1 3 _ hg
  have hgr1 : w.grownBy W1 (some g) := by
    have h := World.keptBut_setCells g (may := fun p => p.block = g) news (0 + i * 1) w.drew (fun _ _ => rfl)
    rw [hW1]
    refine ⟨h.1, ?_, h.2.1, ?_, fun k hk hne => ?_⟩
    · rw [Nat.mul_one, Nat.zero_add, setCells_setRow g 3 news i cur w.drew hg (by omega)]; rfl
    · rw [Nat.mul_one, Nat.zero_add, setCells_setRow g 3 news i cur w.drew hg (by omega)]; simp [World.setRow]
    · exact h.block hk (fun p hp e => hne (by rw [← hp, ← e]))
  have hcl : ∀ ty, (Builtin.clear_ #[25] ty #[.slice (some ⟨g, i + (n - (i + 1)), none⟩) (n - (i + (n - (i + 1)))) (cap - (i + (n - (i + 1))))]).run Try.prog W1 = .ok (.tuple #[]) (W1.setCells g (i + (n - (i + 1))) (List.replicate (n - (i + (n - (i + 1)))) (Value.int .i64 0))) :=
    fun ty => Lib.run_clear_slice W1 _ _ ty _ elI.und (fun w => by simp [zeroValue, typeInfo, hi0, hz0]) rfl rfl g (i + (n - (i + 1))) _ _ (by omega) (fun t ht => by simp [World.cell?, hg1]; omega) (fun t ht => by simp [World.frozen?, hg1])
  have hW : Hid (W1 = w.drew.setCells g (0 + i * 1) news) := hW1
  have hic : i ≤ cap := by omega
  have hb1 : (0 : Int) ≤ (i : Int) + 1 := by omega
  have hb2 : (i : Int) + 1 ≤ (n : Int) := by omega
  have hjc : i + 1 ≤ cap := by omega
  have hsz1 : i0.size = 1 := hz1
  have Hg1 := Lib.hid hg1
  have Hgr1 := Lib.hid hgr1
  have Hs1 := Lib.hid hs1
  have Hnews := Lib.hid hnews
  have Hcur1 := Lib.hid hcur1
  have Hlen := Lib.hid hlen
  have Hs := Lib.hid hs
  clear hW1 hnews hlen hcell hg1 hgr1 hs1 hcur1 hs
  go_enter Try.func64, Try.ntmps64
  go_wp2_with fail
  go_region_law (refine step_append_room rfl (.tmp 22) (.tmp 25) 25 rfl 3 i0 1 elI.und hi0 hsz1 g 0 i cap (by simp [Act.eval, Act.put]) A (n - (i + 1)) (cap - (i + 1)) news (by simp [Act.eval, Act.put]) s1.out hsrc.out s2.out (by omega) s3.out ?_; rw [← hW.out])
  go_wp2
  go_ret
  have hrl : i + (n - (i + 1)) = n - 1 := by omega
  have hz1 : n - (n - 1) = 1 := by omega
  rw [hrl, hz1]
  have hsr := setCells_setRow g 3 [(Value.int .i64 0)] (n - 1) cur1 W1 Hg1.out (by rw [Hs1.out]; simp; omega)
  refine ⟨rfl, ?_, (cur1.toList.take (n - 1) ++ [(Value.int .i64 0)] ++ cur1.toList.drop (n - 1 + 1)).toArray, ?_, ?_, ?_⟩
  · have h := World.keptBut_setCells g (may := fun p => p.block = g) [(Value.int .i64 0)] (n - 1) W1 (fun _ _ => rfl)
    have h2 := Hgr1.out
    refine ⟨h.1.trans h2.os, ?_, h.2.1.trans h2.output, ?_, fun k hk hne => ?_⟩
    · refine Eq.trans ?_ h2.tape; exact (congrArg World.tape hsr).trans rfl
    · refine Nat.le_trans h2.size ?_; exact Nat.le_of_eq ((congrArg (fun w => w.heap.size) hsr).trans (by simp [World.setRow])).symm
    · exact (h.block (Nat.lt_of_lt_of_le hk h2.size) (fun p hp e => hne (by rw [← hp, ← e]))).trans (h2.block k hk hne)
  · show (W1.setCells g (n - 1) [(Value.int .i64 0)]).heap[g]? = _
    rw [hsr]
    exact setRow_heap W1 g cur1 _ 3 _ Hg1.out
  · simp [Hs1.out]; omega
  · have e1 : cur1.toList.take (n - 1) = remI (cur.toList.take n) i := by
      rw [Hcur1.out, Hnews.out]
      have e := remI_cells (cur := cur.toList) (i := i) (n := n) hi (by simp [Hs.out]; omega)
      have e2 : ((cur.toList.take n).drop (i + 1)).length = n - (i + 1) := by simp [Hs.out]; omega
      rw [← e, ← e2]
    have e3 : (cur1.toList.take (n - 1)).length = n - 1 := by simp [Hs1.out]; omega
    simp only [List.append_assoc]
    rw [List.take_left' e3]
    exact e1

theorem idel_c {α : Type} {R : Rel α} [Good R] {B : Nat} {PB : Nat → Prop} {v : Value} {xs : List α} {i : Nat} (w : World) (hv : Own B 3 R PB w v xs) (hi : i < xs.length) :
    Calls Try.prog 64 #[v, .int .i64 (i : Int), .int .i64 ((i : Int) + 1)] w fun e w' => ∃ v', e = .returned v' ∧ Own B 3 R PB w' v' (remI xs i) ∧ w.grownBy w' v.ownBlock ∧ v'.ownBlock = v.ownBlock := by
  obtain ⟨us, hl, ⟨hul, ho⟩, he⟩ := hv
  rcases ho with ⟨rfl, h0⟩ | ⟨g, cap, cur, rfl, hB, hg, hn, hm, hs, ht⟩
  · omega
  · rw [Nat.mul_one] at hs ht
    have h1 : ∀ u ∈ cur.toList.take xs.length, u.oneCell' = true := by
      rw [ht]
      intro u hu
      obtain ⟨k, hk, rfl⟩ := List.getElem_of_mem hu
      exact (he k hk (by omega)).1
    refine (idel_row g i xs.length cap cur w hg hi hn hm hs h1).mono ?_
    rintro e w' ⟨rfl, hgr, cur', hg', hs', ht'⟩
    rw [ht] at ht'
    have hrl : (remI xs i).length = xs.length - 1 := by unfold remI; simp; omega
    have hru : (remI us i).length = us.length - 1 := by unfold remI; simp; omega
    refine ⟨_, rfl, ⟨remI us i, by rw [hrl, hru, hl], ⟨by rw [hru, hrl]; omega, .inr ⟨g, cap, cur', by rw [hrl], hB, hg', by omega, hm, by omega, by rw [hrl, Nat.mul_one]; exact ht'⟩⟩, fun k h1 h2 => ?_⟩, hgr, rfl⟩
    rw [hru] at h1
    have a : (if k < i then k else k + 1) < us.length := by split <;> omega
    have b : (if k < i then k else k + 1) < xs.length := by omega
    have e1 := remI_get (l := us) (i := i) (k := k) (by omega) (by omega) a
    have e2 := remI_get (l := xs) (i := i) (k := k) hi h2 b
    rw [e1, e2]
    exact ⟨(he _ a b).1, Good.grown (he _ a b).2 hgr (fun r hr hc => hc.2 (by cases hr; rfl))⟩
set_option maxRecDepth 100000 in
set_option maxHeartbeats 4000000 in
theorem rdel_row (g i n cap : Nat) (cur : Array Value) (w : World) (hg : w.heap[g]? = some (.cells cur 25 (0, 0))) (hi : i < n) (hn : n ≤ cap) (hm : cap ≤ maxLen) (hs : cur.size = cap) (h1 : ∀ u ∈ cur.toList.take n, u.oneCell' = true) :
    Calls Try.prog 82 #[.slice (some ⟨g, 0, none⟩) n cap, .int .i64 (i : Int), .int .i64 ((i : Int) + 1)] w fun e w' => e = .returned (.slice (some ⟨g, 0, none⟩) (n - 1) cap) ∧ w.grownBy w' (some g) ∧
      ∃ cur', w'.heap[g]? = some (.cells cur' 25 (0, 0)) ∧ cur'.size = cap ∧ cur'.toList.take (n - 1) = remI (cur.toList.take n) i := by
  obtain ⟨i0, hi0, hz0, hz1, hz2⟩ := info_parts elR.info
  simp only [maxLen] at hm
  have hcell : ∀ j, j < cap → w.cell? ⟨g, j, none⟩ = cur[j]? := fun j hj => by simp [World.cell?, hg]
  -- what is moved to the left
  obtain ⟨news, hnews⟩ : ∃ news, news = (cur.toList.take n).drop (i + 1) := ⟨_, rfl⟩
  have hlen : news.length = n - (i + 1) := by rw [hnews]; simp; omega
  obtain ⟨A, hA, hsrc⟩ : ∃ A : Addr, (if cap = i + 1 then some (⟨g, 0, none⟩ : Addr) else some ⟨g, i + 1, none⟩) = some A ∧ Hid (∀ t u, news[t]? = some u → w.drew.cell? (A.add t) = some u) := by
    by_cases h : cap = i + 1
    · refine ⟨⟨g, 0, none⟩, by simp [h], fun t u hu => ?_⟩
      have h0 : news.length = 0 := by rw [hlen]; omega
      rw [List.length_eq_zero_iff.1 h0] at hu
      simp at hu
    · refine ⟨⟨g, i + 1, none⟩, by simp [h], fun t u hu => ?_⟩
      have ht : t < n - (i + 1) := by have := (List.getElem?_eq_some_iff.1 hu).1; rwa [hlen] at this
      rw [hnews, List.getElem?_drop, List.getElem?_take, if_pos (by omega), Array.getElem?_toList] at hu
      rw [Addr.add_lit]
      exact (hcell (i + 1 + t) (by omega)).trans hu
  have s1 : Hid (news.length = (n - (i + 1)) * 1) := by show _ = _; rw [Nat.mul_one]; exact hlen
  have s2 : Hid (∀ u ∈ news, u.oneCell' = true) := fun u hu => h1 u (by rw [hnews] at hu; exact List.mem_of_mem_drop hu)
  have s3 : Hid (∀ t, t < news.length → (w.drew.cell? ⟨g, 0 + i * 1 + t, none⟩).isSome = true ∧ w.drew.frozen? ⟨g, 0 + i * 1 + t, none⟩ = false) := fun t ht => by
    rw [hlen] at ht
    refine ⟨?_, by show w.frozen? _ = false; simp [World.frozen?, hg]⟩
    show (w.cell? _).isSome = true
    rw [Nat.mul_one, Nat.zero_add, hcell _ (by omega)]
    simp; omega
  obtain ⟨W1, hW1⟩ : ∃ W1, W1 = w.drew.setCells g (0 + i * 1) news := ⟨_, rfl⟩
  obtain ⟨cur1, hcur1⟩ : ∃ cur1, cur1 = (cur.toList.take i ++ news ++ cur.toList.drop (i + news.length)).toArray := ⟨_, rfl⟩
  have hs1 : cur1.size = cap := by rw [hcur1]; simp [hlen]; omega
  have hg1 : W1.heap[g]? = some (.cells cur1 25 (0, 0)) := by
    rw [hW1, Nat.mul_one, Nat.zero_add, setCells_setRow g 25 news i cur w.drew hg (by omega), ← hcur1]
    exact setRow_heap w.drew g cur cur1 25 _ hg
  have hgr1 : w.grownBy W1 (some g) := by
    have h := World.keptBut_setCells g (may := fun p => p.block = g) news (0 + i * 1) w.drew (fun _ _ => rfl)
    rw [hW1]
    refine ⟨h.1, ?_, h.2.1, ?_, fun k hk hne => ?_⟩
    · rw [Nat.mul_one, Nat.zero_add, setCells_setRow g 25 news i cur w.drew hg (by omega)]; rfl
    · rw [Nat.mul_one, Nat.zero_add, setCells_setRow g 25 news i cur w.drew hg (by omega)]; simp [World.setRow]
    · exact h.block hk (fun p hp e => hne (by rw [← hp, ← e]))
  have hcl : ∀ ty, (Builtin.clear_ #[22] ty #[.slice (some ⟨g, i + (n - (i + 1)), none⟩) (n - (i + (n - (i + 1)))) (cap - (i + (n - (i + 1))))]).run Try.prog W1 = .ok (.tuple #[]) (W1.setCells g (i + (n - (i + 1))) (List.replicate (n - (i + (n - (i + 1)))) (Value.slice none 0 0))) :=
    fun ty => Lib.run_clear_slice W1 _ _ ty _ elR.und (fun w => by simp [zeroValue, typeInfo, hi0, hz0]) rfl rfl g (i + (n - (i + 1))) _ _ (by omega) (fun t ht => by simp [World.cell?, hg1]; omega) (fun t ht => by simp [World.frozen?, hg1])
  have hW : Hid (W1 = w.drew.setCells g (0 + i * 1) news) := hW1
  have hic : i ≤ cap := by omega
  have hb1 : (0 : Int) ≤ (i : Int) + 1 := by omega
  have hb2 : (i : Int) + 1 ≤ (n : Int) := by omega
  have hjc : i + 1 ≤ cap := by omega
  have hsz1 : i0.size = 1 := hz1
  have Hg1 := Lib.hid hg1
  have Hgr1 := Lib.hid hgr1
  have Hs1 := Lib.hid hs1
  have Hnews := Lib.hid hnews
  have Hcur1 := Lib.hid hcur1
  have Hlen := Lib.hid hlen
  have Hs := Lib.hid hs
  clear hW1 hnews hlen hcell hg1 hgr1 hs1 hcur1 hs
  go_enter Try.func82, Try.ntmps82
  go_wp2_with fail
  go_region_law (refine step_append_room rfl (.tmp 22) (.tmp 25) 22 rfl 25 i0 1 elR.und hi0 hsz1 g 0 i cap (by simp [Act.eval, Act.put]) A (n - (i + 1)) (cap - (i + 1)) news (by simp [Act.eval, Act.put]) s1.out hsrc.out s2.out (by omega) s3.out ?_; rw [← hW.out])
  go_wp2
  go_ret
  have hrl : i + (n - (i + 1)) = n - 1 := by omega
  have hz1 : n - (n - 1) = 1 := by omega
  rw [hrl, hz1]
  have hsr := setCells_setRow g 25 [(Value.slice none 0 0)] (n - 1) cur1 W1 Hg1.out (by rw [Hs1.out]; simp; omega)
  refine ⟨rfl, ?_, (cur1.toList.take (n - 1) ++ [(Value.slice none 0 0)] ++ cur1.toList.drop (n - 1 + 1)).toArray, ?_, ?_, ?_⟩
  · have h := World.keptBut_setCells g (may := fun p => p.block = g) [(Value.slice none 0 0)] (n - 1) W1 (fun _ _ => rfl)
    have h2 := Hgr1.out
    refine ⟨h.1.trans h2.os, ?_, h.2.1.trans h2.output, ?_, fun k hk hne => ?_⟩
    · refine Eq.trans ?_ h2.tape; exact (congrArg World.tape hsr).trans rfl
    · refine Nat.le_trans h2.size ?_; exact Nat.le_of_eq ((congrArg (fun w => w.heap.size) hsr).trans (by simp [World.setRow])).symm
    · exact (h.block (Nat.lt_of_lt_of_le hk h2.size) (fun p hp e => hne (by rw [← hp, ← e]))).trans (h2.block k hk hne)
  · show (W1.setCells g (n - 1) [(Value.slice none 0 0)]).heap[g]? = _
    rw [hsr]
    exact setRow_heap W1 g cur1 _ 25 _ Hg1.out
  · simp [Hs1.out]; omega
  · have e1 : cur1.toList.take (n - 1) = remI (cur.toList.take n) i := by
      rw [Hcur1.out, Hnews.out]
      have e := remI_cells (cur := cur.toList) (i := i) (n := n) hi (by simp [Hs.out]; omega)
      have e2 : ((cur.toList.take n).drop (i + 1)).length = n - (i + 1) := by simp [Hs.out]; omega
      rw [← e, ← e2]
    have e3 : (cur1.toList.take (n - 1)).length = n - 1 := by simp [Hs1.out]; omega
    simp only [List.append_assoc]
    rw [List.take_left' e3]
    exact e1

theorem rdel_c {α : Type} {R : Rel α} [Good R] {B : Nat} {PB : Nat → Prop} {v : Value} {xs : List α} {i : Nat} (w : World) (hv : Own B 25 R PB w v xs) (hi : i < xs.length) :
    Calls Try.prog 82 #[v, .int .i64 (i : Int), .int .i64 ((i : Int) + 1)] w fun e w' => ∃ v', e = .returned v' ∧ Own B 25 R PB w' v' (remI xs i) ∧ w.grownBy w' v.ownBlock ∧ v'.ownBlock = v.ownBlock := by
  obtain ⟨us, hl, ⟨hul, ho⟩, he⟩ := hv
  rcases ho with ⟨rfl, h0⟩ | ⟨g, cap, cur, rfl, hB, hg, hn, hm, hs, ht⟩
  · omega
  · rw [Nat.mul_one] at hs ht
    have h1 : ∀ u ∈ cur.toList.take xs.length, u.oneCell' = true := by
      rw [ht]
      intro u hu
      obtain ⟨k, hk, rfl⟩ := List.getElem_of_mem hu
      exact (he k hk (by omega)).1
    refine (rdel_row g i xs.length cap cur w hg hi hn hm hs h1).mono ?_
    rintro e w' ⟨rfl, hgr, cur', hg', hs', ht'⟩
    rw [ht] at ht'
    have hrl : (remI xs i).length = xs.length - 1 := by unfold remI; simp; omega
    have hru : (remI us i).length = us.length - 1 := by unfold remI; simp; omega
    refine ⟨_, rfl, ⟨remI us i, by rw [hrl, hru, hl], ⟨by rw [hru, hrl]; omega, .inr ⟨g, cap, cur', by rw [hrl], hB, hg', by omega, hm, by omega, by rw [hrl, Nat.mul_one]; exact ht'⟩⟩, fun k h1 h2 => ?_⟩, hgr, rfl⟩
    rw [hru] at h1
    have a : (if k < i then k else k + 1) < us.length := by split <;> omega
    have b : (if k < i then k else k + 1) < xs.length := by omega
    have e1 := remI_get (l := us) (i := i) (k := k) (by omega) (by omega) a
    have e2 := remI_get (l := xs) (i := i) (k := k) hi h2 b
    rw [e1, e2]
    exact ⟨(he _ a b).1, Good.grown (he _ a b).2 hgr (fun r hr hc => hc.2 (by cases hr; rfl))⟩

set_option maxHeartbeats 1000000 in
theorem iclone_c {α : Type} {R : Rel α} [Good R] {PB : Nat → Prop} {v : Value} {xs : List α} (w : World) (hv : Arr R PB w v xs) (hlen : xs.length * 8 ≤ 140737488355328) :
    Calls Try.prog 52 #[v] w (RetP (fun w' v' => Own w.heap.size 3 R (fun k => PB k ∧ k < w.heap.size) w' v' xs) w) := by
  have hq : ∀ (w : World) (a : Option Addr) (n c n' c' : Nat), (binOp .eql 25 (.slice a n c) (.slice none n' c')).run Try.prog w = .ok (.bool a.isNone) w := fun w a n c n' c' => Lib.run_eql_slice_nil w _ _ a n c n' c' elI.und
  have hv0 : Arr R (fun k => PB k ∧ k < w.heap.size) w v xs := Good.bound (R := Arr R) hv
  obtain ⟨a, cap, rfl, h1, h2, h3⟩ := hv
  cases a with
  | none =>
    have hx : xs = [] := by
      cases xs with
      | nil => rfl
      | cons y ys => obtain ⟨_, _, _, _, _, hc, _⟩ := h3 0 (by simp); cases hc
    subst hx
    clear h3 hv0
    go_enter Try.func52, Try.ntmps52
    go_wp2
    go_ret
    exact ⟨_, rfl, Own.nil, Ext.refl _⟩
  | some ad =>
    clear h3
    go_enter Try.func52, Try.ntmps52
    have ho : Own w.heap.size 3 R (fun k => PB k ∧ k < w.heap.size) (w.alloc (.cells #[] 3)) (.slice (some ⟨w.heap.size, 0, none⟩) 0 0) ([] : List α) :=
      ⟨[], rfl, World.ownsRow_made w #[] 0 (Nat.le_refl _) (by simp [maxLen]) (by simp), fun k h => absurd h (Nat.not_lt_zero k)⟩
    have hv1 := Good.ext (R := Arr R) hv0 (Ext.of_alloc w (.cells #[] 3))
    have hlen0 : (([] : List α).length + xs.length) * 8 ≤ 140737488355328 := by simpa using hlen
    have hB1 : w.heap.size ≤ (w.alloc (.cells #[] 3)).heap.size := by simp
    have hPn : ∀ b, (PB b ∧ b < w.heap.size) → b < (w.alloc (.cells #[] 3)).heap.size → (PB b ∧ b < w.heap.size) ∧ (Value.slice (some ⟨w.heap.size, 0, none⟩) 0 0).ownBlock ≠ some b := fun b hb _ => ⟨hb, fun hc => by
      cases hc
      exact Nat.lt_irrefl _ hb.2⟩
    go_wp2_with ((with_reducible refine w_app elI ?_ ?_ ho hv1 (hPn) hB1 hlen0 (by decide) ?_); (· rfl); (· rfl); rintro v1 w1 ho1 hb1 _ _; simp only [Act.put, List.setIfInBounds_toArray, List.set_cons_succ, List.set_cons_zero])
    go_ret
    exact ⟨_, rfl, ho1, Below.trans ((Ext.refl w).alloc _) hb1⟩
set_option maxHeartbeats 1000000 in
theorem rclone_c {α : Type} {R : Rel α} [Good R] {PB : Nat → Prop} {v : Value} {xs : List α} (w : World) (hv : Arr R PB w v xs) (hlen : xs.length * 24 ≤ 140737488355328) :
    Calls Try.prog 28 #[v] w (RetP (fun w' v' => Own w.heap.size 25 R (fun k => PB k ∧ k < w.heap.size) w' v' xs) w) := by
  have hq : ∀ (w : World) (a : Option Addr) (n c n' c' : Nat), (binOp .eql 22 (.slice a n c) (.slice none n' c')).run Try.prog w = .ok (.bool a.isNone) w := fun w a n c n' c' => Lib.run_eql_slice_nil w _ _ a n c n' c' elR.und
  have hv0 : Arr R (fun k => PB k ∧ k < w.heap.size) w v xs := Good.bound (R := Arr R) hv
  obtain ⟨a, cap, rfl, h1, h2, h3⟩ := hv
  cases a with
  | none =>
    have hx : xs = [] := by
      cases xs with
      | nil => rfl
      | cons y ys => obtain ⟨_, _, _, _, _, hc, _⟩ := h3 0 (by simp); cases hc
    subst hx
    clear h3 hv0
    go_enter Try.func28, Try.ntmps28
    go_wp2
    go_ret
    exact ⟨_, rfl, Own.nil, Ext.refl _⟩
  | some ad =>
    clear h3
    go_enter Try.func28, Try.ntmps28
    have ho : Own w.heap.size 25 R (fun k => PB k ∧ k < w.heap.size) (w.alloc (.cells #[] 25)) (.slice (some ⟨w.heap.size, 0, none⟩) 0 0) ([] : List α) :=
      ⟨[], rfl, World.ownsRow_made w #[] 0 (Nat.le_refl _) (by simp [maxLen]) (by simp), fun k h => absurd h (Nat.not_lt_zero k)⟩
    have hv1 := Good.ext (R := Arr R) hv0 (Ext.of_alloc w (.cells #[] 25))
    have hlen0 : (([] : List α).length + xs.length) * 24 ≤ 140737488355328 := by simpa using hlen
    have hB1 : w.heap.size ≤ (w.alloc (.cells #[] 25)).heap.size := by simp
    have hPn : ∀ b, (PB b ∧ b < w.heap.size) → b < (w.alloc (.cells #[] 25)).heap.size → (PB b ∧ b < w.heap.size) ∧ (Value.slice (some ⟨w.heap.size, 0, none⟩) 0 0).ownBlock ≠ some b := fun b hb _ => ⟨hb, fun hc => by
      cases hc
      exact Nat.lt_irrefl _ hb.2⟩
    go_wp2_with ((with_reducible refine w_app elR ?_ ?_ ho hv1 (hPn) hB1 hlen0 (by decide) ?_); (· rfl); (· rfl); rintro v1 w1 ho1 hb1 _ _; simp only [Act.put, List.setIfInBounds_toArray, List.set_cons_succ, List.set_cons_zero])
    go_ret
    exact ⟨_, rfl, ho1, Below.trans ((Ext.refl w).alloc _) hb1⟩

end Go.Proofs.Ytpiidgcljlalmaa
namespace Go.Proofs.Ytpiidgcljlalmaa
open Go.RowKit

def Fix {α : Type} (c : Nat) (Q : Nat → Prop) (R : Rel α) : Rel α := fun P w u x => R (fun k => Q k ∧ k < c) w u x ∧ c ≤ w.heap.size ∧ ∀ k, k < c → P k
instance {α : Type} (c : Nat) (Q : Nat → Prop) (R : Rel α) [Good R] : Good (Fix c Q R) where
  weak := fun ⟨h1, h2, h3⟩ hP => ⟨h1, h2, fun k hk => hP k (h3 k hk)⟩
  move := fun {P w w' v x} ⟨h1, h2, h3⟩ hm => by
    refine ⟨Good.move h1 fun k hk hlt => hm k (h3 k hk.2) hlt, ?_, h3⟩
    by_cases hc : c = 0
    · omega
    · have hlt : c - 1 < w.heap.size := by omega
      have := hm (c - 1) (h3 _ (by omega)) hlt
      rw [Array.getElem?_eq_getElem hlt] at this
      have := (Array.getElem?_eq_some_iff.1 this).1
      omega
  bound := fun ⟨h1, h2, h3⟩ => ⟨h1, h2, fun k hk => ⟨h3 k hk, Nat.lt_of_lt_of_le hk h2⟩⟩

section
set_option linter.unusedSectionVars false
variable {α : Type} {R : Rel α} [Good R] {P P' : Nat → Prop} {w : World} {v : Value} {xs : List α} {c B : Nat} {e : TypeId} {Q : Nat → Prop}
theorem Arr.imp {R' : Rel α} (h : Arr R P w v xs) (hi : ∀ u x, R P w u x → R' P w u x) : Arr R' P w v xs :=
  let ⟨a, cap, hv, h1, h2, h3⟩ := h; ⟨a, cap, hv, h1, h2, fun k hk => let ⟨u, b, off, r1, r2, r3, r4, r5⟩ := h3 k hk; ⟨u, b, off, hi _ _ r1, r2, r3, r4, r5⟩⟩
theorem Arr.fix (h : Arr R P w v xs) : Arr (Fix w.heap.size P R) (fun k => k < w.heap.size) w v xs := by
  obtain ⟨a, cap, hv, h1, h2, h3⟩ := (Good.bound (R := Arr R) h : Arr R (fun k => P k ∧ k < w.heap.size) w v xs)
  exact ⟨a, cap, hv, h1, h2, fun k hk => let ⟨u, b, off, r1, r2, r3, r4, r5⟩ := h3 k hk; ⟨u, b, off, ⟨r1, Nat.le_refl _, fun _ hk => hk⟩, r2, r3, r4.2, r5⟩⟩
theorem Fix.out {u : Value} {x : α} (h : Fix c Q R P w u x) : R P w u x := Good.weak h.1 fun k hk => h.2.2 k hk.2
theorem Arr.unfix (h : Arr (Fix c Q R) P w v xs) : Arr R P w v xs := Arr.imp h fun _ _ h => h.out
theorem Own.unfix (h : Own B e (Fix c Q R) P w v xs) (hc : c ≤ B) : Own B e R (fun k => Q k ∧ k < c) w v xs := by
  obtain ⟨us, hl, ho, he⟩ := h
  refine ⟨us, hl, ho, fun k h1 h2 => ⟨(he k h1 h2).1, Good.weak (he k h1 h2).2.1 fun b hb => ⟨hb, fun hc' => ?_⟩⟩⟩
  have := (ho.lt b hc').1
  omega
theorem Own.fix (h : Own B e (Fix c Q R) P w v xs) (hc : c ≤ B) : Own B e (Fix c Q R) (fun k => k < c) w v xs := by
  obtain ⟨us, hl, ho, he⟩ := h
  refine ⟨us, hl, ho, fun k h1 h2 => ⟨(he k h1 h2).1, (he k h1 h2).2.1, (he k h1 h2).2.2.1, fun j hj => ⟨hj, fun hc' => ?_⟩⟩⟩
  have := (ho.lt j hc').1
  omega
end

theorem chosenI_remI (l : List (List Int)) (ks : List Int) (i : Nat) : remI (chosenI l ks) i = chosenI l (remI ks i) := by
  unfold remI chosenI
  rw [List.map_append, List.map_take, List.map_drop]
theorem chosenI_up (l : List (List Int)) : chosenI l (upI l.length) = l := by
  unfold chosenI upI
  apply List.ext_getElem
  · simp
  · intro i h1 h2
    simp at h1
    simp [h1]
theorem chosenI_length (l : List (List Int)) (ks : List Int) : (chosenI l ks).length = ks.length := by simp [chosenI]
theorem chosenI_mem {l : List (List Int)} {ks : List Int} (h : ∀ y ∈ ks, 0 ≤ y ∧ y < l.length) : ∀ c ∈ chosenI l ks, c ∈ l := by
  intro c hc
  simp only [chosenI, List.mem_map] at hc
  obtain ⟨y, hy, rfl⟩ := hc
  have := h y hy
  have hlt : y.toNat < l.length := by omega
  rw [List.getD_eq_getElem?_getD, List.getElem?_eq_getElem hlt]
  exact List.getElem_mem hlt
theorem prune_chosen (l : List (List Int)) (ok : List (List Int) → Bool) : ∀ (k : Nat) (ks : List Int), chosenI l (prune (fun x => ok (chosenI l x)) k ks) = prune ok k (chosenI l ks)
  | 0, _ => rfl
  | k + 1, ks => by
    simp only [prune]
    rw [prune_chosen l ok k, chosenI_remI]
    split <;> rfl
theorem prune_sub {α : Type} {ok : List α → Bool} : ∀ (k : Nat) (l : List α), (∀ y ∈ prune ok k l, y ∈ l) ∧ (prune ok k l).length ≤ l.length
  | 0, l => ⟨fun _ h => h, Nat.le_refl _⟩
  | k + 1, l => by
    simp only [prune]
    have hr : (remI l k).length ≤ l.length := by unfold remI; simp; omega
    split
    · have h := prune_sub (ok := ok) k (remI l k)
      refine ⟨fun y hy => ?_, Nat.le_trans h.2 hr⟩
      have := h.1 y hy
      unfold remI at this
      rcases List.mem_append.1 this with h' | h'
      · exact List.mem_of_mem_take h'
      · exact List.mem_of_mem_drop h'
    · exact prune_sub k l

def keptI (ok : List (List Int) → Bool) (l : List (List Int)) (k : Nat) : List Int := prune (fun x => ok (chosenI l x)) k (upI l.length)

set_option maxRecDepth 100000 in
set_option maxHeartbeats 4000000 in
theorem reduced_c {P : Nat → Prop} {u : Value} {l : List (List Int)} (K : Nat) (g : Nat) (lb : Array Value) (ok : List (List Int) → Bool) (w : World) (hu : Rows P w u l) (hK : K ≤ l.length) (hsz : l.length ≤ 1000000)
    (eg : ∀ args w, (callFunc g args).run Try.prog w = .ok (.enter g args) w)
    (hf : ∀ (W : World) (v : Value) (xs : List (List Int)), Ext w W → Rows anyB W v xs → (∀ c ∈ xs, c ∈ l) → xs.length ≤ l.length → Calls Try.prog g (#[v] ++ lb) W fun e W' => e = .returned (.bool (ok xs)) ∧ Ext W W') :
    Calls Try.prog 50 #[u, .int .i64 (K : Int), .func (.func g) #[] lb] w (RetP (fun w' r => ∃ x y, r = .tuple #[x, y] ∧ Own w.heap.size 25 (Fix w.heap.size P (Arr RI)) (fun k => k < w.heap.size) w' x (chosenI l (keptI ok l K)) ∧ Own w.heap.size 3 RI noB w' y (keptI ok l K)) w) := by
  have hle := hu.le
  have hu0 := hu.fix
  clear hu
  have HF := Lib.hid hf
  clear hf
  go_enter Try.func50, Try.ntmps50
  go_wp2_with ((with_reducible refine w_len elR.und ?_ ?_ hu0.len ?_); (· rfl); (· rfl); simp only [Act.put, List.setIfInBounds_toArray, List.set_cons_succ, List.set_cons_zero])
  go_loopw [8, 14] (fun x i wr => ∃ (k : Nat), k ≤ l.length ∧ i = .int .i64 (k : Int) ∧ Own w.heap.size 3 RI noB wr x (upI k) ∧ Ext w wr) (fun _ i _ => l.length - (intOf i).toNat)
  case atStart => exact ⟨0, Nat.zero_le _, rfl, Own.nil, Ext.refl _⟩
  case round =>
    obtain ⟨k, hk, rfl, ho, hx1⟩ := hrel
    have hlu : (upI k).length ≤ 1000000000 := by rw [upI_length]; omega
    by_cases hlt : k < l.length
    · go_wp2_with (first | ((with_reducible refine w_pushI elI ?_ ?_ ?_ ((k : Int)) ?_ ho hx1.size hlu ?_); (· exact fun _ => rfl); (· rfl); (· rfl); (· rfl); rintro _ v' w' ho' hb' _ _; simp only [Act.put, List.setIfInBounds_toArray, List.set_cons_succ, List.set_cons_zero]))
      go_roundw
      case rel => exact ⟨k + 1, hlt, by go_num, by rw [upI_succ]; exact ho', Below.trans hx1 hb'⟩
      case measure => simp [intOf]; omega
    · obtain rfl : k = l.length := by omega
      have hu1 := hu0.ext hx1
      have hl24 : l.length * 24 ≤ 140737488355328 := by omega
      go_wp2_with (go_at_call 28; refine (rclone_c _ hu1 hl24).mono ?_; rintro e w2 ⟨v2, rfl, ho2, hx2⟩)
      have ho3 : Own w.heap.size 25 (Fix w.heap.size P (Arr RI)) (fun k => k < w.heap.size) w2 v2 (chosenI l (upI l.length)) := by rw [chosenI_up]; exact ((ho2.fix hx1.size).mono hx1.size (fun _ h => h))
      have hk3 := ho.ext hx2
      have hsep : Hid (Sep v2 _) := Lib.hid (by
        show Sep v2 _
        cases hv : v2.ownBlock with
        | none => exact .inl hv
        | some b => exact .inr (fun hc => by
            have h1 := (ho2.lt b hv).1
            have h2 := (ho.lt b (hc.symm.trans hv)).2
            omega))
      have hx3 := hx1.trans hx2
      clear ho ho2 hx2 hx1 hu1 hlu hlt hk
      go_loopw [0, 8, 10] (fun x y i wr => ∃ (k : Nat) (ks : List Int), k ≤ ks.length ∧ ks.length ≤ l.length ∧ (∀ y ∈ ks, 0 ≤ y ∧ y < l.length) ∧ i = .int .i64 ((k : Int) - 1) ∧ Hid (prune (fun x => ok (chosenI l x)) k ks = keptI ok l K) ∧
        Own w.heap.size 25 (Fix w.heap.size P (Arr RI)) (fun k => k < w.heap.size) wr x (chosenI l ks) ∧ Own w.heap.size 3 RI noB wr y ks ∧ Hid (Sep x y) ∧ Ext w wr) (fun _ _ i _ => (intOf i + 1).toNat)
      case atStart => exact ⟨K, upI l.length, by rw [upI_length]; exact hK, by rw [upI_length]; exact Nat.le_refl _, fun y hy => upI_mem hy, rfl, rfl, ho3, hk3, hsep, hx3⟩
      case round =>
        obtain ⟨k, ks, hk, hkl, hkm, rfl, hn, ho, hkp, hsp, hx⟩ := hrel
        cases k with
        | zero =>
          rw [show (((0 : Nat) : Int) - 1) = -1 from rfl]
          go_wp2
          go_ret2
          refine ⟨_, rfl, ⟨_, _, rfl, ?_, ?_⟩, hx⟩
          · rw [← hn.out]; exact ho
          · rw [← hn.out]; exact hkp
        | succ k =>
          rw [show (((k + 1 : Nat) : Int) - 1) = (k : Int) from by omega]
          have hlt : k < ks.length := by omega
          have hltc : k < (chosenI l ks).length := by rw [chosenI_length]; exact hlt
          have hl24 : (chosenI l ks).length * 24 ≤ 140737488355328 := by rw [chosenI_length]; omega
          have hrl := remI_length hlt
          have hrm : ∀ y ∈ remI ks k, 0 ≤ y ∧ y < l.length := fun y hy => hkm y (remI_mem hy)
          have HRM := Lib.hid hrm
          clear hrm
          have hoa := ho.arr
          have hmem : Hid (∀ c ∈ chosenI l (remI ks k), c ∈ l) := chosenI_mem HRM.out
          have hlen : (chosenI l (remI ks k)).length ≤ l.length := by rw [chosenI_length]; omega
          have hrr := Lib.hid (chosenI_remI l ks k)
          have hK2 : (k : Int) + 1 = (k : Int) + 1 := rfl
          clear hK2
          go_wp2_with (first | (go_at_call 28; refine (rclone_c _ hoa hl24).mono ?_; rintro e w2 ⟨v2, rfl, ho2, hx2⟩) | (go_at_call 82; refine (rdel_c _ ho2 hltc).mono ?_; rintro e w3 ⟨v3, rfl, ho3, hg3, hb3⟩))
          have hx3 : Ext wr w3 := Below.grown hx2 hg3 hx2.size (fun r hr => (ho2.lt r hr).1)
          have hx30 : Ext w w3 := hx.trans hx3
          have ho4 := (ho3.fix hx.size).mono hx.size (fun _ h => h)
          rw [hrr.out] at ho4
          have hkp3 := hkp.ext hx3
          have hC := HF.out w3 v3 _ hx30 ((Arr.unfix ho4.arr).any) hmem.out hlen
          have hsep3 : v3.ownBlock = none ∨ v3.ownBlock ≠ (Value.ownBlock _) := (by
            cases hv : v3.ownBlock with
            | none => exact .inl rfl
            | some b => exact .inr (fun hc => by
                have h1 := (ho3.lt b hv).1
                have h2 := (hkp.lt b hc.symm).2
                omega) : v3.ownBlock = none ∨ v3.ownBlock ≠ u8.ownBlock)
          clear ho3 ho2 hg3 hx2 hrr hoa hltc hl24 hb3
          cases hok : ok (chosenI l (remI ks k))
          · rw [hok] at hC
            go_wp2_with (go_at_fn g; refine hC.mono ?_; rintro e w4 ⟨rfl, hx4⟩)
            go_roundw
            case rel => exact ⟨k, ks, by omega, hkl, hkm, by go_num, by show _ = _; rw [← hn.out, prune, if_neg (by simp [hok])], ho.ext (hx3.trans hx4), hkp3.ext hx4, hsp, hx30.trans hx4⟩
            case measure => simp [intOf]
          · rw [hok] at hC
            have Hsep3 := Lib.hid hsep3
            clear hsep3
            go_wp2_with (first | (go_at_fn g; refine hC.mono ?_; rintro e w4 ⟨rfl, hx4⟩; have hkp4 := hkp3.ext hx4) | (go_at_call 64; refine (idel_c _ hkp4 hlt).mono ?_; rintro e w5 ⟨v5, rfl, hkp5, hg5, hb5⟩))
            have ho5 := (ho4.ext hx4).kept hg5 Hsep3.out (fun r hr => Nat.not_lt.2 (hkp4.lt r hr).1)
            have hsp5 : Hid (Sep v3 v5) := Lib.hid (by
              show Sep v3 v5
              unfold Sep
              rw [hb5]; exact Hsep3.out)
            have hx5 : Ext w w5 := Below.grown (hx30.trans hx4) hg5 (hx30.trans hx4).size (fun r hr => (hkp4.lt r hr).1)
            clear hb5
            go_roundw
            case rel => exact ⟨k, remI ks k, by omega, by omega, HRM.out, by go_num, by show _ = _; rw [← hn.out, prune, if_pos hok], ho5, hkp5, hsp5, hx5⟩
            case measure => simp [intOf]

end Go.Proofs.Ytpiidgcljlalmaa
