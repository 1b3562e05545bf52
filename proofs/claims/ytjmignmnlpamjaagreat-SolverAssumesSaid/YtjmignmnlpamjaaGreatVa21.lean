/- Part 21: walks by contracts, and plain laws. -/
import Derived.Deep.RegionLaw
import Derived.Lib.SliceRun
import Derived.LoopIn
import Derived.LoopNIn
import Derived.RangeFuncBound
import Derived.RangeFuncNested
import Derived.Shelf.RegionOpen
import Derived.Test.YtjmignmnlpamjaaGreatVa20
set_option linter.unusedVariables false
set_option linter.unusedSimpArgs false
set_option linter.unusedSectionVars false
set_option maxRecDepth 100000
set_option maxHeartbeats 4000000
namespace Go.Proofs.YtjmignmnlpamjaaGreat
section
open Go.RowKit

set_option maxHeartbeats 1000000 in
theorem neg_c {P : Nat -> Prop} {u : Value} {c : List Int} (w : World) (hu : ZW P w u c) (hsm : c.length ≤ 1000000) :
  Calls Tryz.prog 111 #[u] w (RetP (fun w' v => Own w.heap.size 3 RI noB w' v (ZI7 c)) w) := by
 have hle := hu.le
 go_enter Tryz.func111, Tryz.ntmps111
 go_wp2
 go_loopw [3, 4] (fun out i wr => ∃ (k : Nat) (acc : List Int), k ≤ c.length /\ acc.length ≤ k /\ i = .int .i64 k /\ Hid (acc ++ ZI7 (c.drop k) = ZI7 c) /\ Own w.heap.size 3 RI noB wr out acc /\ Ext w wr) (fun _ i _ => c.length - (intOf i).toNat)
 case atStart => exact ⟨0, [], Nat.zero_le _, Nat.le_refl _, rfl, rfl, Own.nil, Ext.refl _⟩
 case round =>
  obtain ⟨k, acc, hk, hacc, rfl, hn, ho, hx⟩ := hrel
  have hu' := hu.ext hx
  by_cases hlt : k < c.length
  ·have hst := Lib.hid (ZKi hlt)
   go_wp2_with (first | ((with_reducible refine ZAL elI.und ?_ ?_ hu'.len ?_); (· rfl); (· rfl); simp only [Act.put, List.setIfInBounds_toArray, List.set_cons_succ, List.set_cons_zero]) | ((with_reducible refine ZBZ elI ?_ ?_ ?_ ?_ ?_ hu' hlt ?_); (· rfl); (· exact fun _ => rfl); (· exact fun _ => rfl); (· rfl); (· rfl); intro _; simp only [Act.put, List.setIfInBounds_toArray, List.set_cons_succ, List.set_cons_zero]) | ((with_reducible refine ZD0 elI ?_ ?_ ?_ (wrap64 (-c[k])) ?_ ho hx.size (by omega) ?_); (· exact fun _ => rfl); (· rfl); (· rfl); (· rfl); rintro _ v' w' ho' hb' _ _; simp only [Act.put, List.setIfInBounds_toArray, List.set_cons_succ, List.set_cons_zero]))
   go_roundw
   case rel => exact ⟨k + 1, acc ++ [wrap64 (-c[k])], hlt, by simp; omega, by go_num, by show _ = _; rw [<- hn.out, hst.out, List.append_assoc]; rfl, ho', Below.trans hx hb'⟩
   case measure => simp [intOf]; omega
  ·obtain rfl : k = c.length := by omega
   go_wp2_with ((with_reducible refine ZAL elI.und ?_ ?_ hu'.len ?_); (· rfl); (· rfl); simp only [Act.put, List.setIfInBounds_toArray, List.set_cons_succ, List.set_cons_zero])
   go_ret
   refine ⟨_, rfl, ?_, hx⟩
   have := hn.out
   rw [List.drop_length, ZI7, List.map_nil, List.append_nil] at this
   rw [<- this]; exact ho

theorem ZCG {x : List Int} : ∀ {c : List (List Int)}, x ∈ c -> x.length ≤ c.flatten.length
 | [], h => by cases h
 | y :: c, h => by
  simp only [List.flatten_cons, List.length_append]
  rcases List.mem_cons.1 h with rfl | h
  ·omega
  ·have := ZCG h; omega
theorem ZL6 (c : List (List Int)) (a : List Int) : ZDC c a ≤ c.flatten.length := List.length_filter_le _ _

set_option maxHeartbeats 2000000 in
theorem ZLD {P P' : Nat -> Prop} {u v : Value} {c : List (List Int)} {l : List Int} (w : World) (hu : Rows P w u c) (hv : ZW P' w v l) (hsm : l.length + c.flatten.length ≤ 1000000) :
  Calls Tryz.prog 81 #[u, v] w (RetP (fun w' r => ∃ x y ys, r = .tuple #[x, y, .int .i64 (ZAg c l).2] /\ Own w.heap.size 3 RI noB w' x (ZAg c l).1 /\ Own w.heap.size 3 RI noB w' y ys) w) := by
 have hle := hv.le
 have hsc : ∀ x ∈ c, x.length ≤ 1000000 := fun x hx => by
  have h1 : x.length ≤ c.flatten.length := by
   exact ZCG hx
  omega
 go_enter Tryz.func81, Tryz.ntmps81
 go_wp2
 go_loopw [7, 8, 9] (fun x y i wr => ∃ (k : Nat) (acc ys : List Int), k ≤ l.length /\ acc.length ≤ k /\ ys.length ≤ acc.length /\ i = .int .i64 k /\ Hid (acc ++ l.drop k = l) /\ Own w.heap.size 3 RI noB wr x acc /\ Own w.heap.size 3 RI noB wr y ys /\ Sep y x /\ Ext w wr) (fun _ _ i _ => l.length - (intOf i).toNat)
 case atStart => exact ⟨0, [], [], Nat.zero_le _, Nat.le_refl _, Nat.le_refl _, rfl, rfl, Own.nil, Own.nil, .inl rfl, Ext.refl _⟩
 case round =>
  obtain ⟨k, acc, ys, hk, hacc, hys, rfl, hn, ho, hr, hsep, hx⟩ := hrel
  have hv' := hv.ext hx
  by_cases hlt : k < l.length
  ·have hst := Lib.hid (List.drop_eq_getElem_cons hlt)
   go_wp2_with (first | ((with_reducible refine ZAL elI.und ?_ ?_ hv'.len ?_); (· rfl); (· rfl); simp only [Act.put, List.setIfInBounds_toArray, List.set_cons_succ, List.set_cons_zero]) | ((with_reducible refine ZBZ elI ?_ ?_ ?_ ?_ ?_ hv' hlt ?_); (· rfl); (· exact fun _ => rfl); (· exact fun _ => rfl); (· rfl); (· rfl); intro _; simp only [Act.put, List.setIfInBounds_toArray, List.set_cons_succ, List.set_cons_zero]) | ((with_reducible refine ZD0 elI ?_ ?_ ?_ (l[k]) ?_ ho hx.size (by omega) ?_); (· exact fun _ => rfl); (· rfl); (· rfl); (· rfl); rintro _ x1 w1 ho1 hb1 hg1 hat1; have hr1 := hr.kept hg1 hsep (fun _ _ h => h); simp only [Act.put, List.setIfInBounds_toArray, List.set_cons_succ, List.set_cons_zero]) | ((with_reducible refine ZD0 elI ?_ ?_ ?_ ((-1)) ?_ hr1 (Nat.le_trans hx.size hb1.size) (by omega) ?_); (· exact fun _ => rfl); (· rfl); (· rfl); (· rfl); rintro _ y2 w2 hr2 hb2 hg2 hat2; simp only [Act.put, List.setIfInBounds_toArray, List.set_cons_succ, List.set_cons_zero]))
   go_roundw
   case rel =>
    have hs1 : Sep x1 _ := (ZCs hsep (fun k h => (hr.lt k h).2) hat1 (by omega)).symm
    have hs2 := (ZCs hs1 (fun k h => (ho1.lt k h).2) hat2 (by omega)).symm
    exact ⟨k + 1, acc ++ [l[k]], ys ++ [-1], hlt, by simp; omega, by simp; omega, by go_num, by show _ = _; rw [List.append_assoc]; exact (congrArg (acc ++ ·) hst.out.symm).trans hn.out, ho1.kept hg2 hs1 (fun _ _ h => h), hr2, hs2, Below.trans (Below.trans hx hb1) hb2⟩
   case measure => simp [intOf]; omega
  ·obtain rfl : k = l.length := by omega
   have hacc' : acc = l := by have := hn.out; rwa [List.drop_length, List.append_nil] at this
   subst hacc'
   clear hn hlt hk
   have hu1 := hu.ext hx
   go_wp2_with (first | ((with_reducible refine ZAL elI.und ?_ ?_ hv'.len ?_); (· rfl); (· rfl); simp only [Act.put, List.setIfInBounds_toArray, List.set_cons_succ, List.set_cons_zero]) | (go_at_call 107; refine (ZMn _ hu1 ho.arr hsc).mono ?_; rintro e w1 ⟨r, rfl, ⟨o, rfl, hop⟩, hx1⟩))
   have ho1 := ho.ext hx1
   have hr1 := hr.ext hx1
   have hxx := hx.trans hx1
   clear ho hr hx hx1 hu1 hv'
   go_loopw [7, 8, 10, 11] (fun x y ix op wr => ∃ (a ys : List Int), Hid (ZAg c a = ZAg c acc) /\ a.length + ZDC c a ≤ acc.length + ZDC c acc /\ ys.length ≤ a.length /\ ix = .int .i64 (ZBr (ZAK 0 c a)) /\ ZW ZEZ wr op (ZET (ZAK 0 c a)) /\ Own w.heap.size 3 RI noB wr x a /\ Own w.heap.size 3 RI noB wr y ys /\ Sep y x /\ Ext w wr) (fun x _ _ _ _ => acc.length + ZDC c acc - ZOM x)
   case atStart => exact ⟨acc, ys, rfl, Nat.le_refl _, hys, rfl, hop.any, ho1, hr1, hsep, hxx⟩
   case round =>
    obtain ⟨a, ys, hn, hsz, hys, rfl, hop, ho, hr, hsep, hx⟩ := hrel
    have hol := ZL6 c acc
    have hsl := ho.len.sl
    have Hsl := Lib.hid hsl
    clear hsl
    by_cases hcont : ∃ i x, ZAK 0 c a = some (i, [x])
    ·obtain ⟨i, x, hs⟩ := hcont
     have hlt1 := ZBF hs
     have hmore := Lib.hid (ZCU hs)
     rw [hs] at hop ⊢
     have hi : (i : Int) ≤ 9223372036854775807 := by
      obtain ⟨_, h2, _⟩ := ZAh hs
      have := hu.le
      omega
     have h0 : 0 < (ZET (some (i, [x]))).length := by simp [ZET]
     have hu1 := hu.ext hx
     have hb : ((1 : Int) == 1) = true := rfl
     rw [show ZBr (some (i, [x])) = (i : Int) from rfl]
     replace hop : ZW ZEZ wr u11 [x] := hop
     replace h0 : 0 < [x].length := h0
     clear hs
     go_wp2_with (first | ((with_reducible refine ZAL elI.und ?_ ?_ hop.len ?_); (· rfl); (· rfl); simp only [Act.put, List.setIfInBounds_toArray, List.set_cons_succ, List.set_cons_zero]) | ((with_reducible refine ZBZ elI ?_ ?_ ?_ ?_ ?_ hop h0 ?_); (· rfl); (· exact fun _ => rfl); (· exact fun _ => rfl); (· rfl); (· rfl); intro _; simp only [Act.put, List.setIfInBounds_toArray, List.set_cons_succ, List.set_cons_zero]) | ((with_reducible refine ZD0 elI ?_ ?_ ?_ (x) ?_ ho hx.size (by omega) ?_); (· exact fun _ => rfl); (· rfl); (· rfl); (· rfl); rintro _ x1 w1 ho1 hb1 hg1 hat1; have hr1 := hr.kept hg1 hsep (fun _ _ h => h); simp only [Act.put, List.setIfInBounds_toArray, List.set_cons_succ, List.set_cons_zero]) | ((with_reducible refine ZD0 elI ?_ ?_ ?_ ((i : Int)) ?_ hr1 (Nat.le_trans hx.size hb1.size) (by omega) ?_); (· exact fun _ => rfl); (· rfl); (· rfl); (· rfl); rintro _ y2 w2 hr2 hb2 hg2 hat2; have hx2 := Below.trans (Below.trans hx hb1) hb2; have hs1 := (ZCs hsep (fun k h => (hr.lt k h).2) hat1 (by omega)).symm; have ho2 := ho1.kept hg2 hs1 (fun _ _ h => h); simp only [Act.put, List.setIfInBounds_toArray, List.set_cons_succ, List.set_cons_zero]) | (go_at_call 107; refine (ZMn _ (hu.ext hx2) ho2.arr hsc).mono ?_; rintro e w3 ⟨r3, rfl, ⟨o3, rfl, hop3⟩, hx3⟩))
     go_roundw
     case rel =>
      have hs2 := (ZCs hs1 (fun k h => (ho1.lt k h).2) hat2 (by omega)).symm
      exact ⟨a ++ [x], ys ++ [(i : Int)], by show _ = _; rw [<- hmore.out, hn.out], by simp; omega, by simp; omega, rfl, hop3.any, ho2.ext hx3, hr2.ext hx3, hs2, ZEc hx2 hx2.size hx3⟩
     case measure =>
      have e1 := ho2.len.sl
      rw [e1, Hsl.out, List.length_append, List.length_singleton]
      omega
    ·have hend := Lib.hid (ZBj (c := c) (a := a) (fun i x hs => hcont ⟨i, x, hs⟩))
     have hfin : Hid ((ZAg c acc).2 = ZBr (ZAK 0 c a) /\ (ZAg c acc).1 = a) := by
      show _ /\ _; rw [<- hn.out, hend.out]; exact ⟨rfl, rfl⟩
     have fin : ∀ (b z : Int), b = z -> Ending.returned (.tuple #[u7, u8, .int .i64 b]) = Ending.returned (.tuple #[u7, u8, .int .i64 z]) := fun b z h => by rw [h]
     have hsm' : ∀ i o, ZAK 0 c a = some (i, o) -> o = [] /\ (i : Int) ≤ 9223372036854775807 := fun i o hs => by
      obtain ⟨_, h2, _, _, _, _, h3⟩ := ZAh hs
      have := hu.le
      refine ⟨?_, by omega⟩
      match o, h3, hs with
      | [], _, _ => rfl
      | [x], _, hs => exact absurd ⟨i, x, hs⟩ hcont
      | _ :: _ :: _, h3, _ => simp at h3; omega
     have Hsm := Lib.hid hsm'
     clear hsm' hend hcont
     cases hs : ZAK 0 c a with
     | none =>
      have Hs := Lib.hid hs
      rw [hs] at hop
      rw [show ZBr none = (-1 : Int) from rfl]
      replace hop : ZW ZEZ wr u11 [] := hop
      clear hs
      go_wp2_with (first | ((with_reducible refine ZAL elI.und ?_ ?_ hop.len ?_); (· rfl); (· rfl); simp only [Act.put, List.setIfInBounds_toArray, List.set_cons_succ, List.set_cons_zero]))
      go_ret3
      exact ⟨_, rfl, ⟨_, _, _, (by rw [hfin.out.1, Hs.out]; rfl), by rw [hfin.out.2]; exact ho, hr⟩, hx⟩
     | some r =>
      obtain ⟨i, o⟩ := r
      have Hs := Lib.hid hs
      obtain ⟨rfl, hi⟩ := Hsm.out i o hs
      rw [hs] at hop
      rw [show ZBr (some (i, [])) = (i : Int) from rfl]
      replace hop : ZW ZEZ wr u11 [] := hop
      clear hs
      have hb : ((0 : Int) == 1) = false := rfl
      go_wp2_with (first | ((with_reducible refine ZAL elI.und ?_ ?_ hop.len ?_); (· rfl); (· rfl); simp only [Act.put, List.setIfInBounds_toArray, List.set_cons_succ, List.set_cons_zero]))
      go_ret3
      exact ⟨_, rfl, ⟨_, _, _, (by rw [hfin.out.1, Hs.out]; rfl), by rw [hfin.out.2]; exact ho, hr⟩, hx⟩

theorem ZKN {P P' : Nat -> Prop} {u v : Value} {c : List (List Int)} {x : List Int} (w : World) (hu : Rows P w u c) (hv : ZW P' w v x) (hsm : x.length + c.flatten.length ≤ 1000000) :
  Calls Tryz.prog 88 #[u, v] w fun e w' => e = .returned (.bool (ZAi c x)) /\ Ext w w' := by
 have hl : (ZI7 x).length = x.length := by simp [ZI7]
 have hl2 : (ZI7 x).length + c.flatten.length ≤ 1000000 := by omega
 go_enter Tryz.func88, Tryz.ntmps88
 go_wp2_with (first | (go_at_call 111; refine (neg_c _ hv (by omega)).mono ?_; rintro e w1 ⟨r1, rfl, hr1, hx1⟩) | (go_at_call 81; refine (ZLD _ (hu.ext hx1) hr1.arr hl2).mono ?_; rintro e w2 ⟨r2, rfl, ⟨p, q, ys, rfl, _, _⟩, hx2⟩))
 go_ret
 exact ⟨rfl, hx1.trans hx2⟩

def ZFH (l : List (List Int)) : Nat := l.length + l.flatten.length
theorem ZIq (c : List Int) (l : List (List Int)) : ZFH (c :: l) = ZFH l + (c.length + 1) := by
 simp only [ZFH, List.flatten_cons, List.length_append, List.length_cons]; omega
set_option maxHeartbeats 1000000 in
theorem ZJF {P P' : Nat -> Prop} {u v : Value} {l : List (List Int)} {c : List Int} (vars : Int) (w : World) (hu : Rows P w u l) (hv : ZW P' w v c)
  (hsm : ZQ vars l = 0 -> ZR vars none c = 0 -> ZFH l + c.length ≤ 500000) :
  Calls Tryz.prog 41 #[.agg #[.int .i64 vars, u], v] w fun e w' => e = .returned (.tuple #[.bool (Za vars l c).1, .int .i64 (Za vars l c).2]) /\ Ext w w' := by
 by_cases hc : ZQ vars l = 0
 ·have hvars := Zc hc
  by_cases hz : ZR vars none c = 0
  ·have hsm' := hsm hc hz
   have hs2 : c.length + l.flatten.length ≤ 1000000 := by unfold ZFH at hsm'; omega
   have hver : Hid (Za vars l c = (ZAi l c, 0)) := by show _ = _; unfold Za; rw [if_neg (by simp [hc]), if_neg (by simp [hz])]
   clear hsm
   go_enter Tryz.func41, Tryz.ntmps41
   go_wp2_with (first | (go_at_call 29; refine (ZFu _ _ (hu.ext (ZF _ _))).mono ?_; rintro e w1 ⟨rfl, hx1⟩; have hb0 : w1.cell? ⟨w.heap.size, 0, none⟩ = some (.int .i64 vars) := hx1.cell (by simp); have hb1 : w1.cell? ⟨w.heap.size, 1, none⟩ = some u := hx1.cell (by simp); have hx := (ZF w _).trans hx1; have hu1 := hu.ext hx; have hv1 := hv.ext hx) | (go_at_call 68; refine (ZFv vars _ hv1 (by omega) (by omega)).mono ?_; rintro e w2 ⟨rfl, n, rfl⟩) | (go_at_call 88; refine (ZKN _ (hu1.ext (ZAC _ _)) (hv1.ext (ZAC _ _)) hs2).mono ?_; rintro e w3 ⟨rfl, hx3⟩))
   go_ret2
   exact ⟨ZFa (by rw [hver.out]) (by rw [hver.out]), (hx.drewN _).trans hx3⟩
  ·have hver : Hid (Za vars l c = (false, ZR vars none c)) := by show _ = _; unfold Za; rw [if_neg (by simp [hc]), if_pos hz]
   go_enter Tryz.func41, Tryz.ntmps41
   go_wp2_with (first | (go_at_call 29; refine (ZFu _ _ (hu.ext (ZF _ _))).mono ?_; rintro e w1 ⟨rfl, hx1⟩; have hb0 : w1.cell? ⟨w.heap.size, 0, none⟩ = some (.int .i64 vars) := hx1.cell (by simp); have hb1 : w1.cell? ⟨w.heap.size, 1, none⟩ = some u := hx1.cell (by simp); have hx := (ZF w _).trans hx1; have hv1 := hv.ext hx) | (go_at_call 68; refine (ZFv vars _ hv1 (by omega) (by omega)).mono ?_; rintro e w2 ⟨rfl, n, rfl⟩))
   go_ret2
   exact ⟨ZFa (by rw [hver.out]) (by rw [hver.out]), hx.drewN _⟩
 ·have hver : Hid (Za vars l c = (false, ZQ vars l)) := by show _ = _; unfold Za; rw [if_pos hc]
  go_enter Tryz.func41, Tryz.ntmps41
  go_wp2_with (first | (go_at_call 29; refine (ZFu _ _ (hu.ext (ZF _ _))).mono ?_; rintro e w1 ⟨rfl, hx1⟩))
  go_ret2
  exact ⟨ZFa (by rw [hver.out]) (by rw [hver.out]), (ZF w _).trans hx1⟩

end
section
open Go.RowKit

theorem ZHo {α : Type} {l : List α} {i : Nat} (h : i < l.length) : (ZCZ l i).length = l.length - 1 := by unfold ZCZ; simp; omega
theorem ZIC {m : Nat} : ∀ {l : List (List Int)}, (∀ x ∈ l, x.length ≤ m) -> ZFH l ≤ l.length * (m + 1)
 | [], _ => by simp [ZFH]
 | c :: l, h => by
  have h1 := ZIC (l := l) (fun x hx => h x (by simp [hx]))
  have h2 := h c (by simp)
  rw [ZIq, List.length_cons, Nat.succ_mul]; omega
theorem ZBk (k : Nat) : (upI k).length = k := by simp [upI]
theorem ZHy {k : Nat} {x : Int} (h : x ∈ upI k) : 0 ≤ x /\ x < k := by
 simp only [upI, List.mem_map, List.mem_range] at h
 obtain ⟨a, ha, rfl⟩ := h
 simp only [Int.ofNat_eq_natCast]; omega

end
section
open Go.RowKit

theorem ZAq (g : Nat) (t : TypeId) : ∀ (vs : List Value) (o : Nat) (cur : Array Value) (w : World), w.heap[g]? = some (.cells cur t (0, 0)) -> o + vs.length ≤ cur.size ->
  w.setCells g o vs = w.setRow g (cur.toList.take o ++ vs ++ cur.toList.drop (o + vs.length)).toArray
 | [], o, cur, w, hg, _ => by
  simp only [World.setCells, List.append_nil, List.length_nil, Nat.add_zero, List.take_append_drop, Array.toArray_toList]
  exact (setRow_self w g cur t (0, 0) hg).symm
 | v :: rest, o, cur, w, hg, hl => by
  have ih := ZAq g t rest (o + 1) (cur.setIfInBounds o v) (w.setRow g (cur.setIfInBounds o v)) (setRow_heap w g cur _ t _ hg) (by simp at hl ⊢; omega)
  rw [World.setCells, setCell_eq_setRow w g o cur t (0, 0) v hg, ih, setRow_setRow]
  congr 2
  have e := list_seg_step cur.toList o v rest (by simp at hl ⊢; omega)
  simpa [Array.toList_setIfInBounds] using e

theorem Own.mono {α : Type} {R : Rel α} [Good R] {B B' : Nat} {e : TypeId} {P P' : Nat -> Prop} {w : World} {v : Value} {xs : List α} (h : Own B e R P w v xs) (hB : B' ≤ B) (hP : ∀ k, P k -> P' k) : Own B' e R P' w v xs := by
 obtain ⟨us, hl, ho, he⟩ := h
 refine ⟨us, hl, ⟨ho.1, ho.2.imp id fun ⟨g, cap, cur, a, b, c⟩ => ⟨g, cap, cur, a, Nat.le_trans hB b, c⟩⟩, fun k h1 h2 => ⟨(he k h1 h2).1, Good.weak (he k h1 h2).2 fun b hb => ⟨hP b hb.1, hb.2⟩⟩⟩

theorem ZJE {α : Type} {cur : List α} {i n : Nat} (hi : i < n) (hn : n ≤ cur.length) :
  (cur.take i ++ (cur.take n).drop (i + 1) ++ cur.drop (i + (n - (i + 1)))).take (n - 1) = ZCZ (cur.take n) i := by
 unfold ZCZ
 have h1 : (cur.take i ++ (cur.take n).drop (i + 1)).length = n - 1 := by simp; omega
 rw [<- h1, List.take_left' rfl, List.take_take, Nat.min_eq_left (by omega)]

theorem ZIV {α : Type} {l : List α} {i k : Nat} (hi : i < l.length) (h : k < (ZCZ l i).length) (h' : (if k < i then k else k + 1) < l.length) : (ZCZ l i)[k] = l[if k < i then k else k + 1] := by
 have e : (ZCZ l i)[k]? = l[if k < i then k else k + 1]? := by
  unfold ZCZ
  have hti : (l.take i).length = i := by simp; omega
  by_cases hk : k < i
  ·rw [if_pos hk, List.getElem?_append_left (by omega), List.getElem?_take, if_pos hk]
  ·rw [if_neg hk, List.getElem?_append_right (by omega), List.getElem?_drop, hti]
   congr 1; omega
 rw [List.getElem?_eq_getElem h, List.getElem?_eq_getElem h'] at e
 exact Option.some.inj e

set_option maxRecDepth 100000 in
set_option maxHeartbeats 4000000 in
theorem ZLv (g i n cap : Nat) (cur : Array Value) (w : World) (hg : w.heap[g]? = some (.cells cur 3 (0, 0))) (hi : i < n) (hn : n ≤ cap) (hm : cap ≤ maxLen) (hs : cur.size = cap) (h1 : ∀ u ∈ cur.toList.take n, u.oneCell' = true) :
  Calls Tryz.prog 44 #[.slice (some ⟨g, 0, none⟩) n cap, .int .i64 (i : Int), .int .i64 ((i : Int) + 1)] w fun e w' => e = .returned (.slice (some ⟨g, 0, none⟩) (n - 1) cap) /\ w.grownBy w' (some g) /\
   ∃ cur', w'.heap[g]? = some (.cells cur' 3 (0, 0)) /\ cur'.size = cap /\ cur'.toList.take (n - 1) = ZCZ (cur.toList.take n) i := by
 obtain ⟨i0, hi0, hz0, hz1, hz2⟩ := info_parts elI.info
 simp only [maxLen] at hm
 have hcell : ∀ j, j < cap -> w.cell? ⟨g, j, none⟩ = cur[j]? := fun j hj => by simp [World.cell?, hg]
 -- what is moved to the left
 obtain ⟨news, hnews⟩ : ∃ news, news = (cur.toList.take n).drop (i + 1) := ⟨_, rfl⟩
 have hlen : news.length = n - (i + 1) := by rw [hnews]; simp; omega
 obtain ⟨A, hA, hsrc⟩ : ∃ A : Addr, (if cap = i + 1 then some (⟨g, 0, none⟩ : Addr) else some ⟨g, i + 1, none⟩) = some A /\ Hid (∀ t u, news[t]? = some u -> w.drew.cell? (A.add t) = some u) := by
  by_cases h : cap = i + 1
  ·refine ⟨⟨g, 0, none⟩, by simp [h], fun t u hu => ?_⟩
   have h0 : news.length = 0 := by rw [hlen]; omega
   rw [List.length_eq_zero_iff.1 h0] at hu
   simp at hu
  ·refine ⟨⟨g, i + 1, none⟩, by simp [h], fun t u hu => ?_⟩
   have ht : t < n - (i + 1) := by have := (List.getElem?_eq_some_iff.1 hu).1; rwa [hlen] at this
   rw [hnews, List.getElem?_drop, List.getElem?_take, if_pos (by omega), Array.getElem?_toList] at hu
   rw [Addr.add_lit]
   exact (hcell (i + 1 + t) (by omega)).trans hu
 have s1 : Hid (news.length = (n - (i + 1)) * 1) := by show _ = _; rw [Nat.mul_one]; exact hlen
 have s2 : Hid (∀ u ∈ news, u.oneCell' = true) := fun u hu => h1 u (by rw [hnews] at hu; exact List.mem_of_mem_drop hu)
 have s3 : Hid (∀ t, t < news.length -> (w.drew.cell? ⟨g, 0 + i * 1 + t, none⟩).isSome = true /\ w.drew.frozen? ⟨g, 0 + i * 1 + t, none⟩ = false) := fun t ht => by
  rw [hlen] at ht
  refine ⟨?_, by show w.frozen? _ = false; simp [World.frozen?, hg]⟩
  show (w.cell? _).isSome = true
  rw [Nat.mul_one, Nat.zero_add, hcell _ (by omega)]
  simp; omega
 obtain ⟨W1, hW1⟩ : ∃ W1, W1 = w.drew.setCells g (0 + i * 1) news := ⟨_, rfl⟩
 obtain ⟨cur1, hcur1⟩ : ∃ cur1, cur1 = (cur.toList.take i ++ news ++ cur.toList.drop (i + news.length)).toArray := ⟨_, rfl⟩
 have hs1 : cur1.size = cap := by rw [hcur1]; simp [hlen]; omega
 have hg1 : W1.heap[g]? = some (.cells cur1 3 (0, 0)) := by
  rw [hW1, Nat.mul_one, Nat.zero_add, ZAq g 3 news i cur w.drew hg (by omega), <- hcur1]
  exact setRow_heap w.drew g cur cur1 3 _ hg
 have hgr1 : w.grownBy W1 (some g) := by
  have h := World.keptBut_setCells g (may := fun p => p.block = g) news (0 + i * 1) w.drew (fun _ _ => rfl)
  rw [hW1]
  refine ⟨h.1, ?_, h.2.1, ?_, fun k hk hne => ?_⟩
  ·rw [Nat.mul_one, Nat.zero_add, ZAq g 3 news i cur w.drew hg (by omega)]; rfl
  ·rw [Nat.mul_one, Nat.zero_add, ZAq g 3 news i cur w.drew hg (by omega)]; simp [World.setRow]
  ·exact h.block hk (fun p hp e => hne (by rw [<- hp, <- e]))
 have hcl : ∀ ty, (Builtin.clear_ #[25] ty #[.slice (some ⟨g, i + (n - (i + 1)), none⟩) (n - (i + (n - (i + 1)))) (cap - (i + (n - (i + 1))))]).run Tryz.prog W1 = .ok (.tuple #[]) (W1.setCells g (i + (n - (i + 1))) (List.replicate (n - (i + (n - (i + 1)))) (Value.int .i64 0))) :=
  fun ty => Lib.run_clear_slice W1 _ _ ty _ elI.und (fun w => by simp [zeroValue, typeInfo, hi0, hz0]) rfl rfl g (i + (n - (i + 1))) _ _ (by omega) (fun t ht => by simp [World.cell?, hg1]; omega) (fun t ht => by simp [World.frozen?, hg1])
 have hW : Hid (W1 = w.drew.setCells g (0 + i * 1) news) := hW1
 have hic : i ≤ cap := by omega
 have hb1 : (0 : Int) ≤ (i : Int) + 1 := by omega
 have hb2 : (i : Int) + 1 ≤ (n : Int) := by omega
 have hjc : i + 1 ≤ cap := by omega
 have hsz1 : i0.size = 1 := hz1
 have Hg1 := Lib.hid hg1
 have Hgr1 := Lib.hid hgr1
 have Hs1 := Lib.hid hs1
 have Hnews := Lib.hid hnews
 have Hcur1 := Lib.hid hcur1
 have Hlen := Lib.hid hlen
 have Hs := Lib.hid hs
 clear hW1 hnews hlen hcell hg1 hgr1 hs1 hcur1 hs
 go_enter Tryz.func44, Tryz.ntmps44
 go_wp2_with fail
 go_region_law (refine step_append_room rfl (.tmp 22) (.tmp 25) 25 rfl 3 i0 1 elI.und hi0 hsz1 g 0 i cap (by simp [Act.eval, Act.put]) A (n - (i + 1)) (cap - (i + 1)) news (by simp [Act.eval, Act.put]) s1.out hsrc.out s2.out (by omega) s3.out ?_; rw [<- hW.out])
 go_wp2
 go_ret
 have hrl : i + (n - (i + 1)) = n - 1 := by omega
 have hz1 : n - (n - 1) = 1 := by omega
 rw [hrl, hz1]
 have hsr := ZAq g 3 [(Value.int .i64 0)] (n - 1) cur1 W1 Hg1.out (by rw [Hs1.out]; simp; omega)
 refine ⟨rfl, ?_, (cur1.toList.take (n - 1) ++ [(Value.int .i64 0)] ++ cur1.toList.drop (n - 1 + 1)).toArray, ?_, ?_, ?_⟩
 ·have h := World.keptBut_setCells g (may := fun p => p.block = g) [(Value.int .i64 0)] (n - 1) W1 (fun _ _ => rfl)
  have h2 := Hgr1.out
  refine ⟨h.1.trans h2.os, ?_, h.2.1.trans h2.output, ?_, fun k hk hne => ?_⟩
  ·refine Eq.trans ?_ h2.tape; exact (congrArg World.tape hsr).trans rfl
  ·refine Nat.le_trans h2.size ?_; exact Nat.le_of_eq ((congrArg (fun w => w.heap.size) hsr).trans (by simp [World.setRow])).symm
  ·exact (h.block (Nat.lt_of_lt_of_le hk h2.size) (fun p hp e => hne (by rw [<- hp, <- e]))).trans (h2.block k hk hne)
 ·show (W1.setCells g (n - 1) [(Value.int .i64 0)]).heap[g]? = _
  rw [hsr]
  exact setRow_heap W1 g cur1 _ 3 _ Hg1.out
 ·simp [Hs1.out]; omega
 ·have e1 : cur1.toList.take (n - 1) = ZCZ (cur.toList.take n) i := by
   rw [Hcur1.out, Hnews.out]
   have e := ZJE (cur := cur.toList) (i := i) (n := n) hi (by simp [Hs.out]; omega)
   have e2 : ((cur.toList.take n).drop (i + 1)).length = n - (i + 1) := by simp [Hs.out]; omega
   rw [<- e, <- e2]
  have e3 : (cur1.toList.take (n - 1)).length = n - 1 := by simp [Hs1.out]; omega
  simp only [List.append_assoc]
  rw [List.take_left' e3]
  exact e1

theorem ZOA {α : Type} {R : Rel α} [Good R] {B : Nat} {PB : Nat -> Prop} {v : Value} {xs : List α} {i : Nat} (w : World) (hv : Own B 3 R PB w v xs) (hi : i < xs.length) :
  Calls Tryz.prog 44 #[v, .int .i64 (i : Int), .int .i64 ((i : Int) + 1)] w fun e w' => ∃ v', e = .returned v' /\ Own B 3 R PB w' v' (ZCZ xs i) /\ w.grownBy w' v.ownBlock /\ v'.ownBlock = v.ownBlock := by
 obtain ⟨us, hl, ⟨hul, ho⟩, he⟩ := hv
 rcases ho with ⟨rfl, h0⟩ | ⟨g, cap, cur, rfl, hB, hg, hn, hm, hs, ht⟩
 ·omega
 ·rw [Nat.mul_one] at hs ht
  have h1 : ∀ u ∈ cur.toList.take xs.length, u.oneCell' = true := by
   rw [ht]
   intro u hu
   obtain ⟨k, hk, rfl⟩ := List.getElem_of_mem hu
   exact (he k hk (by omega)).1
  refine (ZLv g i xs.length cap cur w hg hi hn hm hs h1).mono ?_
  rintro e w' ⟨rfl, hgr, cur', hg', hs', ht'⟩
  rw [ht] at ht'
  have hrl : (ZCZ xs i).length = xs.length - 1 := by unfold ZCZ; simp; omega
  have hru : (ZCZ us i).length = us.length - 1 := by unfold ZCZ; simp; omega
  refine ⟨_, rfl, ⟨ZCZ us i, by rw [hrl, hru, hl], ⟨by rw [hru, hrl]; omega, .inr ⟨g, cap, cur', by rw [hrl], hB, hg', by omega, hm, by omega, by rw [hrl, Nat.mul_one]; exact ht'⟩⟩, fun k h1 h2 => ?_⟩, hgr, rfl⟩
  rw [hru] at h1
  have a : (if k < i then k else k + 1) < us.length := by split <;> omega
  have b : (if k < i then k else k + 1) < xs.length := by omega
  have e1 := ZIV (l := us) (i := i) (k := k) (by omega) (by omega) a
  have e2 := ZIV (l := xs) (i := i) (k := k) hi h2 b
  rw [e1, e2]
  exact ⟨(he _ a b).1, Good.grown (he _ a b).2 hgr (fun r hr hc => hc.2 (by cases hr; rfl))⟩
end
section
open Go.RowKit

def Fix {α : Type} (c : Nat) (Q : Nat -> Prop) (R : Rel α) : Rel α := fun P w u x => R (fun k => Q k /\ k < c) w u x /\ c ≤ w.heap.size /\ ∀ k, k < c -> P k
instance {α : Type} (c : Nat) (Q : Nat -> Prop) (R : Rel α) [Good R] : Good (Fix c Q R) where
 weak := fun ⟨h1, h2, h3⟩ hP => ⟨h1, h2, fun k hk => hP k (h3 k hk)⟩
 move := fun {P w w' v x} ⟨h1, h2, h3⟩ hm => by
  refine ⟨Good.move h1 fun k hk hlt => hm k (h3 k hk.2) hlt, ?_, h3⟩
  by_cases hc : c = 0
  ·omega
  ·have hlt : c - 1 < w.heap.size := by omega
   have := hm (c - 1) (h3 _ (by omega)) hlt
   rw [Array.getElem?_eq_getElem hlt] at this
   have := (Array.getElem?_eq_some_iff.1 this).1
   omega
 bound := fun ⟨h1, h2, h3⟩ => ⟨h1, h2, fun k hk => ⟨h3 k hk, Nat.lt_of_lt_of_le hk h2⟩⟩

section
variable {α : Type} {R : Rel α} [Good R] {P P' : Nat -> Prop} {w : World} {v : Value} {xs : List α} {c B : Nat} {e : TypeId} {Q : Nat -> Prop}
theorem Arr.imp {R' : Rel α} (h : Arr R P w v xs) (hi : ∀ u x, R P w u x -> R' P w u x) : Arr R' P w v xs :=
 let ⟨a, cap, hv, h1, h2, h3⟩ := h; ⟨a, cap, hv, h1, h2, fun k hk => let ⟨u, b, off, r1, r2, r3, r4, r5⟩ := h3 k hk; ⟨u, b, off, hi _ _ r1, r2, r3, r4, r5⟩⟩
theorem Fix.out {u : Value} {x : α} (h : Fix c Q R P w u x) : R P w u x := Good.weak h.1 fun k hk => h.2.2 k hk.2
end

theorem ZBN (l : List (List Int)) (ks : List Int) : (Ze l ks).length = ks.length := by simp [Ze]
theorem ZEf {l : List (List Int)} {ks : List Int} (h : ∀ y ∈ ks, 0 ≤ y /\ y < l.length) : ∀ c ∈ Ze l ks, c ∈ l := by
 intro c hc
 simp only [Ze, List.mem_map] at hc
 obtain ⟨y, hy, rfl⟩ := hc
 have := h y hy
 have hlt : y.toNat < l.length := by omega
 rw [List.getD_eq_getElem?_getD, List.getElem?_eq_getElem hlt]
 exact List.getElem_mem hlt
end
section
open Go.RowKit

def RW : Rel Value := fun _ _ v x => v = x
instance : Good RW := ⟨fun h _ => h, fun h _ => h, fun h => h⟩

section
variable {F : Fence} {n : Nat} {P : Program} {ops : Array Oper} {rest : List Oper} {o : Oper} {a : Act} {Q : Exit -> Act -> World -> Prop} {w : World}

theorem ZBt (hw : Region.wanted o (yielded ops a.tmps) = true) (hab : o.about P w a.eval = none) (hnd : ∀ c, o.op ≠ .defer c) {v : Value} {w' : World} (h : (execOp a.eval o).run P w = .ok (.value v) w') (hk : wpListIn F n P ops Q rest (a.put o.dst v) w') : wpListIn F n P ops Q (o :: rest) a w :=
 wpListIn_step fun K hK => by
  rw [if_pos hw]
  unfold Oper.wpIn
  refine ⟨fun f hf => (by rw [hab] at hf; cases hf), ?_⟩
  rw [Oper.semAt_plain F _ _ hnd, h]
  exact hK _ _ hk

theorem ZOT {x : Operand} {t e : TypeId} {dst : Option Tmp} {ty1 : TypeId} {ps1 : String} {af1 : Array Edge} {g1 : Option (Nat × Bool)}
  {v : Value} (hu : P.underlying t = some (.slice e)) (hw : Region.wanted ⟨dst, .call { callee := .builtin .len, args := #[x], argTypes := #[t] }, ty1, ps1, af1, g1⟩ (yielded ops a.tmps) = true) (hx : a.eval x = v) {m : Nat} (hv : Len v m) (hk : wpListIn F n P ops Q rest (a.put dst (.int .i64 m)) w) :
  wpListIn F n P ops Q (⟨dst, .call { callee := .builtin .len, args := #[x], argTypes := #[t] }, ty1, ps1, af1, g1⟩ :: rest) a w := by
 refine ZBt hw (by simp [Oper.about, resolve, Target.leads, Sem.run_pure]) (fun c hc => by cases hc) (v := .int .i64 m) (w' := w) ?_ hk
 subst hx
 unfold execOp
 simp only [resolve, invoke, builtin, Sem.run_bind, Sem.run_pure, Result.andThen_ok, List.map_toArray, List.map_cons, List.map_nil, ZGI hu hv]

variable {t e : TypeId} {bytes : Nat} {z : Value}

theorem ZOS {x i : Operand} {d : Tmp} {dst2 : Option Tmp} {ty1 ty2 : TypeId} {ps1 ps2 : String} {af1 af2 : Array Edge} {g1 g2 : Option (Nat × Bool)} (E : ElT P t e 1 z bytes false)
  (hw : Region.wanted ⟨some d, .indexAddr t x i, ty1, ps1, af1, g1⟩ (yielded ops a.tmps) = true) (hw2 : ∀ p : Addr, Region.wanted ⟨dst2, .load e (.tmp d), ty2, ps2, af2, g2⟩ (yielded ops (a.put (some d) (.pointer (some p))).tmps) = true)
  (hdl : ∀ p : Value, (a.put (some d) p).eval (.tmp d) = p) {α : Type} {R : Rel α} {PB : Nat -> Prop} {v : Value} {xs : List α} {k : Nat} (hx : a.eval x = v) (hi : a.eval i = .int .i64 (k : Int))
  (hv : Arr R PB w v xs) (hk : k < xs.length)
  (h : ∀ (p : Addr) (u : Value), R PB w u xs[k] -> u.oneCell' = true -> wpListIn F n P ops Q rest ((a.put (some d) (.pointer (some p))).put dst2 u) w) :
  wpListIn F n P ops Q (⟨some d, .indexAddr t x i, ty1, ps1, af1, g1⟩ :: ⟨dst2, .load e (.tmp d), ty2, ps2, af2, g2⟩ :: rest) a w := by
 obtain ⟨ad, cap, rfl, h1, h2, h3⟩ := hv
 obtain ⟨u, b, off, r1, r2, rfl, r4, r5⟩ := h3 k hk
 have hix := ZAp (w := w) E b off xs.length cap k .i64 hk
 rw [Nat.mul_one] at hix
 refine ZBt hw rfl (fun c hc => by cases hc) (v := .pointer (some ⟨b, off + k, none⟩)) (w' := w) ?_ ?_
 ·unfold execOp
  simp only [hx, hi, Sem.run_bind, hix, Result.andThen_ok, Sem.run_pure]
 ·refine ZBt (hw2 _) rfl (fun c hc => by cases hc) (v := u) (w' := w) ?_ (h _ u r1 r2)
  have he := hdl (.pointer (some ⟨b, off + k, none⟩))
  unfold execOp
  simp only [he, Instr.loadAt, Instr.sureAddr, loadVar, Sem.run_bind, E.agg, Result.andThen_ok, Sem.run_pure, Bool.false_eq_true, if_false, run_load, r5]
end

theorem ZJH {P : Nat -> Prop} {w : World} {u : Value} {l : List (List Int)} (h : Rows P w u l) : ∃ xs : List (Value × List Int), xs.map Prod.snd = l /\ (∀ x ∈ xs, ZW P w x.1 x.2 /\ x.1.oneCell' = true) /\ Arr RW P w u (xs.map Prod.fst) := by
 obtain ⟨a, cap, hv, h1, h2, h3⟩ := h
 have hch : ∀ k : Nat, ∃ y : Value, ∀ h : k < l.length, ZW P w y l[k] /\ y.oneCell' = true /\ ∃ b off, a = some ⟨b, off, none⟩ /\ P b /\ w.cell? ⟨b, off + k, none⟩ = some y := by
  intro k
  by_cases hk : k < l.length
  ·obtain ⟨y, b, off, r1, r2, r3, r4, r5⟩ := h3 k hk
   exact ⟨y, fun _ => ⟨r1, r2, b, off, r3, r4, r5⟩⟩
  ·exact ⟨undef, fun h => absurd h hk⟩
 obtain ⟨f, hf⟩ := Classical.axiomOfChoice hch
 refine ⟨(List.range l.length).map fun k => (f k, l.getD k []), ?_, ?_, ?_⟩
 ·apply List.ext_getElem
  ·simp
  ·intro i h1 h2
   simp [h2]
 ·intro x hx
  simp only [List.mem_map, List.mem_range] at hx
  obtain ⟨k, hk, rfl⟩ := hx
  have := hf k hk
  simp only [List.getD_eq_getElem?_getD, List.getElem?_eq_getElem hk, Option.getD_some]
  exact ⟨this.1, this.2.1⟩
 ·refine ⟨a, cap, by simpa using hv, by simpa using h1, h2, fun k hk => ?_⟩
  have hk' : k < l.length := by simpa using hk
  obtain ⟨_, r2, b, off, r3, r4, r5⟩ := hf k hk'
  exact ⟨f k, b, off, by simp [RW], r2, r3, r4, r5⟩

def KeepsBut (bad : Nat -> Prop) (W W' : World) : Prop := W.heap.size ≤ W'.heap.size /\ ∀ k o, ¬ bad k -> W.heap[k]? = some o -> o.isCells = true -> W'.heap[k]? = some o
theorem KeepsBut.refl (bad : Nat -> Prop) (W : World) : KeepsBut bad W W := ⟨Nat.le_refl _, fun _ _ _ h _ => h⟩
theorem KeepsBut.trans {bad : Nat -> Prop} {A B C : World} (h : KeepsBut bad A B) (k : KeepsBut bad B C) : KeepsBut bad A C := ⟨Nat.le_trans h.1 k.1, fun i o hb hi ho => k.2 i o hb (h.2 i o hb hi ho) ho⟩
theorem KeepsBut.putObj {bad : Nat -> Prop} (W : World) (l : Nat) (o o' : Obj) (hl : W.heap[l]? = some o) (hc : o.isCells = false) : KeepsBut bad W (W.putObj l o') :=
 ⟨by simp, fun k x _ hk hx => by
  by_cases e : k = l
  ·subst e; rw [hl] at hk; cases hk; rw [hc] at hx; cases hx
  ·exact (World.putObj_heap_other e).trans hk⟩
theorem KeepsBut.cell {bad : Nat -> Prop} {W W' : World} (h : KeepsBut bad W W') {p : Addr} {v : Value} (hb : ¬ bad p.block) (hc : W.cell? p = some v) : W'.cell? p = some v := by
 obtain ⟨o, ho, hoc⟩ := cells_of_cell hc
 exact (World.cell?_of_block ((h.2 _ _ hb ho hoc).trans ho.symm)).trans hc
theorem KeepsBut.ext {bad : Nat -> Prop} {W W' : World} (h : Ext W W') : KeepsBut bad W W' := ⟨h.size, fun k o _ hk _ => (h.block k (Array.getElem?_eq_some_iff.1 hk).1).trans hk⟩

end
end Go.Proofs.YtjmignmnlpamjaaGreat
