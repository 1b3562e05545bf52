/- Part 21: walks by contracts, and plain laws. -/
import Derived.Shelf.SlSortCmp.NoneTotal
import Derived.Shelf.Spec.SlicesGrow
import Derived.Test.YtmcllakdbgnfiaaGreatDoorVg19
import Derived.Test.YtmcllakdbgnfiaaGreatDoorVg20
set_option linter.unusedVariables false
set_option linter.unusedSimpArgs false
set_option linter.unusedSectionVars false
set_option maxRecDepth 100000
set_option maxHeartbeats 4000000
namespace Go.Proofs.YtmcllakdbgnfiaaGreatDoor.M
section
open Go.RowKit

theorem nan_p (x : Int) : Fn Tryz.prog 169 [dI x] (dB false) := by
 (refine ZE Tryz.func169 rfl rfl ?_; simp only [Tryz.ntmps169, List.length_cons, List.length_nil, Nat.reduceAdd, Nat.reduceSub, List.replicate_succ, List.replicate_zero, List.cons_append, List.nil_append])
 ((repeat' (first | (apply ZJ; (focus (apply ZG; (exact ZV rfl); (first | (apply SY.move <;> (exact oD)) | (apply SY.assign <;> (exact oD))))); dsimp only [ZB, z0, z1]) | refine WL.nil ?_ | refine ZA fun Kx hK => ?_ | (refine hK _ _ ?_; clear hK) | refine WC.region ?_ | (apply ZJ; (focus (apply ZG; (exact ZV rfl); ((first | ((first | apply SY.move | apply SY.assign | apply SY.neq) <;> (exact oD)) | fail); all_goals infer_instance))); dsimp only [ZB, z0, z1]) | refine WC.ret ?_)); all_goals (first | ((repeat clear hK); (repeat clear Kx))))
 all_goals ((refine ⟨trivial, _, rfl, ?_⟩; refine FinD.b ?_); simp)
theorem cmpI_p (x y : Int) : Fn Tryz.prog 150 [dI x, dI y] (dI (cmpI x y)) := by
 (refine ZE Tryz.func150 rfl rfl ?_; simp only [Tryz.ntmps150, List.length_cons, List.length_nil, Nat.reduceAdd, Nat.reduceSub, List.replicate_succ, List.replicate_zero, List.cons_append, List.nil_append])
 ((repeat' (first | (apply ZJ; (focus (apply ZG; (exact ZV rfl); (first | (apply SY.move <;> (exact oD)) | (apply SY.assign <;> (exact oD))))); dsimp only [ZB, z0, z1]) | refine WL.nil ?_ | refine ZA fun Kx hK => ?_ | (refine hK _ _ ?_; clear hK) | refine WC.region ?_ | (apply ZJ; (focus (apply ZG; (exact ZV rfl); ((first | (apply SY.call (nan_p _) Tryz.call169; (exact aD)) | ((first | apply SY.move | apply SY.assign | apply SY.lss | apply SY.gtr) <;> (exact oD)) | fail); all_goals infer_instance))); dsimp only [ZB, z0, z1]) | (apply Zr; (exact oD); (with_reducible rfl)) | (apply ZC; (exact oD); (all_goals intro h); (all_goals try (exfalso; first | omega | contradiction))) | refine WC.skip ?_ | refine WC.ret ?_ | refine ThenD.r ?_)); all_goals (first | ((repeat clear hK); (repeat clear Kx))))
 all_goals ((refine ⟨trivial, _, rfl, ?_⟩; refine FinD.i ?_); unfold cmpI; simp [*])
 all_goals omega
theorem orI_p (l : List Int) : Fn Tryz.prog 149 [dS ZCE l] (dI (orI l)) := by
 (refine ZE Tryz.func149 rfl rfl ?_; simp only [Tryz.ntmps149, List.length_cons, List.length_nil, Nat.reduceAdd, Nat.reduceSub, List.replicate_succ, List.replicate_zero, List.cons_append, List.nil_append])
 (repeat' (first | (apply ZJ; (focus (apply ZG; (exact ZV rfl); (first | (apply SY.move <;> (exact oD)) | (apply SY.assign <;> (exact oD)) | (apply SY.load; (exact tD); (exact OpD.t rfl))))); dsimp only [ZB, z0, z1]) | refine WL.nil ?_ | refine ZA fun Kx hK => ?_ | (refine hK _ _ ?_; clear hK) | refine WC.region ?_ | (apply ZJ; (focus (apply ZG; (exact ZV rfl); ((first | (apply SY.len; (exact oD); (exact nD); (exact uD)) | fail); all_goals infer_instance))); dsimp only [ZB, z0, z1]) | refine WC.block ?_))
 (first | refine ZR (t := 0) rfl le_K fun hl0 => ?_ | refine ZR (t := 0) rfl le_A fun hl0 => ?_); simp only [maxLen] at hl0
 (refine WC.loopU (X := Nat) (fun k => [(8, dI (k : Int)), (2, dA), (5, dA), (9, dA), (10, dA), (11, dA), (12, dA), (13, dA), (14, dA), (15, dA), (16, dA)]) (fun k => []) (fun k => l.length - k) (fun k => k <= l.length /\ orI l = orI (l.drop k)) 0 ?start ?frame0 ?objs0 ?round)
 case start => exact ⟨Nat.zero_le _, rfl⟩
 case frame0 => ((try dsimp only [ZL, z0, z1]); repeat (first | exact LeF.nil | refine ZD (k := ?_)))
 case objs0 => rfl
 case round =>
  rintro k ⟨h1, h2⟩
  dsimp only [ZL, z0, z1]
  ((repeat' (first | (apply ZJ; (focus (apply ZG; (exact ZV rfl); (first | (apply SY.move <;> (exact oD)) | (apply SY.assign <;> (exact oD)) | (apply SY.load; (exact tD); (exact OpD.t rfl))))); dsimp only [ZB, z0, z1]) | refine WL.nil ?_ | refine ZA fun Kx hK => ?_ | (refine hK _ _ ?_; clear hK) | (refine Kont.skip ?_; clear hK) | refine WC.region ?_ | (apply ZJ; (focus (apply ZG; (exact ZV rfl); ((first | ((first | apply SY.move | apply SY.assign | apply SY.lss | apply SY.neq) <;> (exact oD)) | ((first | apply SY.add) <;> first | exact oD | omega) | (apply SY.ix; (exact eD); (exact oD); (exact oD); exact kD) | fail); all_goals infer_instance))); dsimp only [ZB, z0, z1]) | (apply ZC; (exact oD); (all_goals intro h); (all_goals try (exfalso; first | omega | contradiction))) | (apply ZH; (exact oD); (all_goals intro h); (all_goals try (exfalso; first | omega | contradiction))) | refine WC.skip ?_ | refine WC.ret ?_ | refine WC.exit ?_ | refine WC.block ?_ | refine ThenD.n ?_ | refine ThenD.r ?_ | refine InBlockD.r ?_)); all_goals (first | ((repeat clear hK); (repeat clear Kx))))
  ·(refine ⟨trivial, _, rfl, ?_⟩; refine FinD.i ?_)
   rw [h2, orI_drop (by omega), if_neg h]
  ·(refine ⟨k + 1, ?_, by first | omega | (simp only; omega), rfl, ?_⟩; rotate_left; ((try dsimp only [ZL, z0, z1]); repeat (first | exact LeF.nil | refine ZD (k := ?_))); (try dsimp only))
   exact ⟨by omega, by rw [h2, orI_drop (by omega), if_pos h]⟩
  ·(refine ⟨trivial, _, rfl, ?_⟩; refine FinD.i ?_)
   rw [h2, List.drop_of_length_le (by omega)]; rfl
theorem order_p (x y : Vx) : Fn Tryz.prog 120 [dS RV x, dS RV y] (dI (ZAX x y)) := by
 (refine ZE Tryz.func120 rfl rfl ?_; simp only [Tryz.ntmps120, List.length_cons, List.length_nil, Nat.reduceAdd, Nat.reduceSub, List.replicate_succ, List.replicate_zero, List.cons_append, List.nil_append])
 ((repeat' (first | ((first | apply ZJ | apply WD.op); (focus (apply ZG; (exact ZV rfl); (first | (apply SY.assign <;> (exact oD)) | (apply SY.load; (exact tD); (exact OpD.t rfl))))); dsimp only [ZB, z0, z1]) | refine WL.nil ?_ | refine WD.nil ?_ | refine ZA fun Kx hK => ?_ | (refine hK _ _ ?_; clear hK) | refine WC.region ?_ | (apply WC.draw; kernel_rfl; kernel_rfl) | ((first | apply ZJ | apply WD.op); (focus (apply ZG; (exact ZV rfl); ((first | (apply SY.call (cmpI_p _ _) Tryz.call150; (exact aD)) | (apply SY.call (orI_p [_, _]) Tryz.call149; (exact aD)) | (first | (apply SY.fld0 vxT <;> (exact oD)) | (apply SY.fld1 vxT <;> (exact oD))) | (apply SY.build1'; (exact eD); ((try simp only [List.map_cons, List.map_nil]); (repeat (first | exact ZAj | (apply ZAU; (first | exact OpD.t rfl | exact OpD.i | exact OpD.b | exact OpD.tle rfl (by first | exact ZN | exact ZK (by decide)) | exact ⟨ZN⟩ | exact ⟨ZK (by decide)⟩))))); rfl; rfl; (intro _; first | exact ZAs | exact ZBt | exact ZBT | exact ZB5); (exact (by simp))) | (apply SY.box; (exact oD); (exact hD)) | fail); all_goals infer_instance))); dsimp only [ZB, z0, z1]) | refine WC.ret ?_)); all_goals (first | ((repeat clear hK); (repeat clear Kx))))
 all_goals ((refine ⟨trivial, _, rfl, ?_⟩; refine FinD.i ?_); exact cmpV_or _ _)
theorem Ext.grow {w w' : World} (h : Ext w w') : ∃ q os', w' = Go.Sort.grow (w.drewN q) os' := by
 refine ⟨w'.drawn - w.drawn, w'.heap.extract w.heap.size w'.heap.size, ?_⟩
 have hd := h.d
 have hs := h.b.size
 have hh : w'.heap = w.heap ++ w'.heap.extract w.heap.size w'.heap.size := by
  apply Array.ext
  ·simp; omega
  ·intro i h1 h2
   by_cases hi : i < w.heap.size
   ·have := h.b.block i hi
    rw [Array.getElem?_eq_getElem h1, Array.getElem?_eq_getElem hi] at this
    rw [Array.getElem_append_left hi]
    exact Option.some.inj this
   ·rw [Array.getElem_append_right (by omega), Array.getElem_extract]
    congr 1
    omega
 unfold Go.Sort.grow World.drewN
 cases w'
 cases w
 simp only at hd hh
 have h1 := h.b.os; have h2 := h.b.tape; have h3 := h.b.output
 simp only at h1 h2 h3
 subst h1; subst h2; subst h3
 simp only [World.mk.injEq, true_and, and_true]
 exact ⟨hh, by omega⟩
theorem order_x (x y : Vx) (w : World) : Calls Tryz.prog 120 #[.agg #[.int .i64 x.1, .int .i64 x.2], .agg #[.int .i64 y.1, .int .i64 y.2]] w fun e w' => e = .returned (.int .i64 (ZAX x y)) /\ ∃ q os', w' = Go.Sort.grow (w.drewN q) os' := by
 have := (order_p x y).out (fun _ => True) w [.agg #[.int .i64 x.1, .int .i64 x.2], .agg #[.int .i64 y.1, .int .i64 y.2]] rfl (fun i d hd => by
  match i with
  | 0 => cases hd; rfl
  | 1 => cases hd; rfl
  | i + 2 => simp at hd)
 exact this.mono fun e w' ⟨v, h1, h2, h3⟩ => ⟨by rw [h1]; exact congrArg _ h3, h2.grow⟩

end
end Go.Proofs.YtmcllakdbgnfiaaGreatDoor.M
namespace Go.Proofs
section
open Go.Shelf
def Tryz.sortV_ren : Go.Shelf.Ren := ⟨fun | 6 => 79 | 15 => 118 | 14 => 117 | 28 => 147 | 29 => 148 | 20 => 139 | 21 => 140 | 22 => 141 | 23 => 142 | 24 => 143 | 25 => 144 | 26 => 145 | 27 => 146 | 46 => 164 | 47 => 165 | 48 => 166 | 49 => 167 | 50 => 168 | 57 => 177 | n => n, fun | 22 => 28 | 24 => 45 | 25 => 124 | 3 => 3 | 39 => 161 | 0 => 0 | 53 => 183 | 55 => 185 | 4 => 4 | 46 => 177 | 45 => 176 | 50 => 55 | 5 => 5 | 9 => 9 | 66 => 197 | 70 => 201 | 76 => 208 | 77 => 209 | n => n, fun | n => n⟩
theorem Tryz.sortV : Go.Proofs.SlLaysF0.n6 Tryz.prog Tryz.sortV_ren := {
 mixed := by kernel_rfl
 f6 := ⟨Tryz.f79.name, by decide, Tryz.func79.trans (congrArg some (by kernel_rfl))⟩
 f14 := ⟨Tryz.f117.name, by decide, Tryz.func117.trans (congrArg some (by kernel_rfl))⟩
 f15 := Tryz.func118.trans (congrArg some (by kernel_rfl))
 f20 := ⟨Tryz.f139.name, by decide, Tryz.func139.trans (congrArg some (by kernel_rfl))⟩
 f21 := ⟨Tryz.f140.name, by decide, Tryz.func140.trans (congrArg some (by kernel_rfl))⟩
 f22 := ⟨Tryz.f141.name, by decide, Tryz.func141.trans (congrArg some (by kernel_rfl))⟩
 f23 := ⟨Tryz.f142.name, by decide, Tryz.func142.trans (congrArg some (by kernel_rfl))⟩
 f24 := ⟨Tryz.f143.name, by decide, Tryz.func143.trans (congrArg some (by kernel_rfl))⟩
 f25 := ⟨Tryz.f144.name, by decide, Tryz.func144.trans (congrArg some (by kernel_rfl))⟩
 f26 := ⟨Tryz.f145.name, by decide, Tryz.func145.trans (congrArg some (by kernel_rfl))⟩
 f27 := ⟨Tryz.f146.name, by decide, Tryz.func146.trans (congrArg some (by kernel_rfl))⟩
 f28 := Tryz.func147.trans (congrArg some (by kernel_rfl))
 f29 := Tryz.func148.trans (congrArg some (by kernel_rfl))
 f46 := ⟨Tryz.f164.name, by decide, Tryz.func164.trans (congrArg some (by kernel_rfl))⟩
 f47 := Tryz.func165.trans (congrArg some (by kernel_rfl))
 f48 := Tryz.func166.trans (congrArg some (by kernel_rfl))
 f49 := ⟨Tryz.f167.name, by decide, Tryz.func167.trans (congrArg some (by kernel_rfl))⟩
 f50 := ⟨Tryz.f168.name, by decide, Tryz.func168.trans (congrArg some (by kernel_rfl))⟩
 f57 := ⟨Tryz.f177.name, by decide, Tryz.func177.trans (congrArg some (by kernel_rfl))⟩
 t0 := Tryz.underlying0
 a0 := Tryz.isAgg0
 z0 := Tryz.sizeOf0
 v0 := Tryz.zeroValue0
 t3 := Tryz.underlying3
 a3 := Tryz.isAgg3
 z3 := Tryz.sizeOf3
 v3 := Tryz.zeroValue3
 t4 := Tryz.underlying4
 a4 := Tryz.isAgg4
 z4 := Tryz.sizeOf4
 v4 := Tryz.zeroValue4
 t5 := Tryz.underlying5
 a5 := Tryz.isAgg5
 z5 := Tryz.sizeOf5
 v5 := Tryz.zeroValue5
 t9 := Tryz.underlying9
 a9 := Tryz.isAgg9
 z9 := Tryz.sizeOf9
 v9 := Tryz.zeroValue9
 t22 := Tryz.underlying28
 a22 := Tryz.isAgg28
 z22 := Tryz.sizeOf28
 v22 := Tryz.zeroValue28
 t25 := Tryz.underlying124
 a25 := Tryz.isAgg124
 z25 := Tryz.sizeOf124
 v25 := Tryz.zeroValue124
 t39 := Tryz.underlying161
 a39 := Tryz.isAgg161
 z39 := Tryz.sizeOf161
 v39 := Tryz.zeroValue161
 t45 := Tryz.underlying176
 a45 := Tryz.isAgg176
 z45 := Tryz.sizeOf176
 v45 := Tryz.zeroValue176
 t46 := Tryz.underlying177
 a46 := Tryz.isAgg177
 z46 := Tryz.sizeOf177
 v46 := Tryz.zeroValue177
 t50 := Tryz.underlying55
 a50 := Tryz.isAgg55
 z50 := Tryz.sizeOf55
 v50 := Tryz.zeroValue55
 t53 := Tryz.underlying183
 a53 := Tryz.isAgg183
 z53 := Tryz.sizeOf183
 v53 := Tryz.zeroValue183
 t55 := Tryz.underlying185
 a55 := Tryz.isAgg185
 z55 := Tryz.sizeOf185
 v55 := Tryz.zeroValue185
 t66 := Tryz.underlying197
 a66 := Tryz.isAgg197
 z66 := Tryz.sizeOf197
 v66 := Tryz.zeroValue197
 t70 := Tryz.underlying201
 a70 := Tryz.isAgg201
 z70 := Tryz.sizeOf201
 v70 := Tryz.zeroValue201
 t76 := Tryz.underlying208
 a76 := Tryz.isAgg208
 z76 := Tryz.sizeOf208
 v76 := Tryz.zeroValue208
 t77 := Tryz.underlying209
 a77 := Tryz.isAgg209
 z77 := Tryz.sizeOf209
 v77 := Tryz.zeroValue209 }
end
end Go.Proofs
namespace Go.Proofs.YtmcllakdbgnfiaaGreatDoor
section
open Go.RowKit Go.Sort Go.Shelf

theorem swoV : SWO (ltOf ZAX) where
 irrefl x := by simp [ltOf, ZBR.2 (rfl : x = x)]
 trans x y z h h' := by
  simp only [ltOf, decide_eq_true_eq] at *
  exact ZBD h h'
 ntrans x y z h h' := by
  simp only [ltOf, decide_eq_false_iff_not] at *
  intro hc
  rcases ZBA x y with k | k | k
  ·omega
  ·have := ZBD (a := y) (b := x) (c := z) (by omega) hc
   exact h' this
  ·exact h' (k.2.2 ▸ hc)
theorem flat_list {d : Array Vx} : (flatK ZBx 2 d).toList = (d.toList.map ZBx).flatten := by
 apply List.ext_getElem?
 intro t
 have hl : ∀ u ∈ d.toList.map ZBx, u.length = 2 := fun u hu => by obtain ⟨x, _, rfl⟩ := List.mem_map.1 hu; rfl
 have hlen : ((d.toList.map ZBx).flatten).length = d.size * 2 := by
  rw [List.length_flatten]
  have : (List.map List.length (d.toList.map ZBx)) = List.replicate d.size 2 := by
   rw [List.eq_replicate_iff]
   refine ⟨by simp, fun b hb => ?_⟩
   obtain ⟨u, hu, rfl⟩ := List.mem_map.1 hb
   exact hl u hu
  rw [this]; simp
 by_cases ht : t < d.size * 2
 ·have h1 : t / 2 < (d.toList.map ZBx).length := by simp; omega
  have h2 : t % 2 < 2 := Nat.mod_lt _ (by decide)
  have h3 : ((d.toList.map ZBx)[t / 2]'h1)[t % 2]? = some ((ZBx (d[t / 2]'(by omega)))[t % 2]'(by simp [ZBx]; omega)) := by
   simp
  have h4 := Zt hl h1 h3
  have h5 : t / 2 * 2 + t % 2 = t := by omega
  rw [h5] at h4
  rw [h4]
  have h6 := get_flatK ZBx 2 d t ht
  rw [Array.getElem?_toList]
  have h7 : t < (flatK ZBx 2 d).size := by simp; omega
  rw [getElem!_pos _ t h7, getElem!_pos d (t / 2) (by omega), getElem!_pos _ (t % 2) (by simp [ZBx]; omega)] at h6
  rw [Array.getElem?_eq_getElem h7, h6]
 ·rw [List.getElem?_eq_none (by simp; omega), List.getElem?_eq_none (by omega)]
section
variable {w : World} {g n cap : Nat} {os : Array Obj} {cur : Array Value} {e : TypeId} {fz : Nat × Nat}
theorem holds_of_row {F : Array Value} (hb : w.heap[g]? = some (.cells cur e (0, 0))) (ht : cur.toList.take F.size = F.toList) : Holds id w g 0 F := by
 intro j hj
 refine ⟨?_, by simp [World.frozen?, hb]⟩
 have h1 : (cur.toList.take F.size)[j]? = F.toList[j]? := by rw [ht]
 rw [List.getElem?_take_of_lt hj] at h1
 simp only [World.cell?, hb, Nat.zero_add]
 simp only [Option.isSome_none, Bool.false_eq_true, if_false]
 rw [<- Array.getElem?_toList, h1, getElem!_pos _ j hj]
 simp [hj]
theorem heap_sortedF (F : Array Value) (hb : w.heap[g]? = some (.cells cur e fz)) :
  (grow (putRow id (Sort.ahead w n) g 0 F) os).heap[g]? = some (.cells (putCells id 0 F cur) e fz) := by
 have hg : g < w.heap.size := (Array.getElem?_eq_some_iff.1 hb).1
 rw [heap_grow_old _ _ (by simpa using hg)]
 simp [putRow, mapBlock, Sort.ahead, Array.getElem?_modify, hb, onCells]
theorem grownBy_sortedF (F : Array Value) : w.grownBy (grow (putRow id (Sort.ahead w n) g 0 F) os) (some g) := by
 refine ⟨rfl, rfl, rfl, by simp, fun k hk hne => ?_⟩
 rw [heap_grow_old _ _ (by simpa using hk)]
 have : g ≠ k := fun e => hne (by rw [e])
 simp [putRow, mapBlock, Sort.ahead, Array.getElem?_modify, this]
theorem take_putCellsF (cur F : Array Value) (h : F.size <= cur.size) : (putCells id 0 F cur).toList.take F.size = F.toList := by
 apply List.ext_getElem?
 intro j
 by_cases hj : j < F.size
 ·rw [List.getElem?_take_of_lt hj, Array.getElem?_toList]
  simp [putCells, hj, show j < cur.size by omega]
 ·rw [List.getElem?_take_eq_none (by omega), List.getElem?_eq_none (by simp; omega)]
end
section
variable {ops : Array Oper} {hp : List HObj} {fr : List Dat} {Q : Z1} {rest : List Oper} {dst : Option Tmp} {ty : TypeId} {ps : String} {af : Array Edge}
theorem WL.sortVG {cf : FuncId} (hce : ZAG Tryz.prog cf) (hcx : ∀ (x y : Vx) (w : World), Calls Tryz.prog cf #[.agg #[.int .i64 x.1, .int .i64 x.2], .agg #[.int .i64 y.1, .int .i64 y.2]] w fun e w' => e = .returned (.int .i64 (ZAX x y)) /\ ∃ q os', w' = Go.Sort.grow (w.drewN q) os') {x : Operand} {v : Value} {e : TypeId} {xs : List Vx} {ats : Array TypeId} (hx : OpD fr x (dX v)) (hlen : xs.length < 4611686018427387904)
  (h : ∀ ys : List Vx, ys.Perm xs -> ys.Pairwise (fun a b => ¬ ZAX b a < 0) -> WL Tryz.prog ops Q rest (ZB fr dst dA) (ZS v e 2 RV ys :: hp)) :
  WL Tryz.prog ops Q ({ dst := dst, op := .call { callee := .value (.func 79), args := #[x, .func cf], argTypes := ats }, type := ty, pos := ps, after := af, guard := none } :: rest) fr (ZS v e 2 RV xs :: hp) := by
 refine WL.of fun P0 B w0 w a hh hf => ?_
 have hok := hh.ok (ZS v e 2 RV xs) (by simp)
 obtain ⟨us, h1, h2, h0, h3, h4⟩ := hok
 have hus := us_encV h1 h4
 subst hus
 have hev : a.eval x = v := hx.ev hf
 obtain ⟨hfl, hv⟩ := h3
 by_cases hne0 : xs = []
 ·subst hne0
  have hv0 : ∃ p cap, v = .slice p 0 cap := by
   rcases hv with ⟨hv, _⟩ | ⟨g, cap, cur, hv, _⟩
   ·exact ⟨_, _, hv⟩
   ·exact ⟨_, _, hv⟩
  obtain ⟨p, cap, hv0⟩ := hv0
  have hcon := AnyF.slices_SortFunc_none (P := Tryz.prog) (ρ := Tryz.sortV_ren) Tryz.sortV p cap (.func (.func cf) #[] #[]) w
  change Calls Tryz.prog 79 _ _ _ at hcon
  have hrun : (execOp a.eval { dst := dst, op := .call { callee := .value (.func 79), args := #[x, .func cf], argTypes := ats }, type := ty, pos := ps, after := af, guard := none }).run Tryz.prog w = .ok (.enter 79 #[v, .func (.func cf) #[] #[]]) w := by
   unfold execOp
   simp only [resolve]
   have he : (#[x, Operand.func cf] : Array Operand).map a.eval = #[v, .func (.func cf) #[] #[]] := by simp [hev]; rfl
   rw [he]
   simp [Act.eval, Deferred.ofValue, invoke, Tryz.call79]
  refine wpList_plain rfl fun K hK => ?_
  unfold Oper.wp
  rw [hrun, hv0]
  refine hcon.mono fun e' w' ⟨he, hw'⟩ => ?_
  subst he
  subst hw'
  exact hK _ _ ((h [] (List.Perm.refl _) List.Pairwise.nil).on hh (hf.put (d := dA) trivial))
 have hne : 0 < xs.length := List.length_pos_iff.2 hne0
 rcases hv with ⟨_, hz⟩ | ⟨g, cap, cur, hv, hB, hg, hc1, hc2, hc3, hc4⟩
 ·omega
 have hgb : g < w.heap.size := (Array.getElem?_eq_some_iff.1 hg).1
 have hF : (flatK ZBx 2 xs.toArray).toList = (xs.map ZBx).flatten := by rw [flat_list]
 have hFs : (flatK ZBx 2 xs.toArray).size = xs.length * 2 := by simp
 have hH : HoldsK ZBx 2 w g 0 xs.toArray := holds_of_row hg (by rw [hFs, hF]; exact hc4)
 have hcon := AnyQ.slices_SortFunc Tryz.sortV 2 Tryz.isAgg45 Tryz.sizeOf45 ZBx (fun _ => rfl) (fun x v hv => by simp [ZBx] at hv; rcases hv with rfl | rfl <;> rfl) ZAX swoV cf #[] g 0 cap xs.toArray w hce
  (fun _ _ _ _ x y => hcx x y _) hH hgb (by simpa using hlen)
 change Calls Tryz.prog 79 _ _ _ at hcon
 subst hv
 have hrun : (execOp a.eval { dst := dst, op := .call { callee := .value (.func 79), args := #[x, .func cf], argTypes := ats }, type := ty, pos := ps, after := af, guard := none }).run Tryz.prog w = .ok (.enter 79 #[.slice (some ⟨g, 0, none⟩) xs.toArray.size cap, .func (.func cf) #[] #[]]) w := by
  unfold execOp
  simp only [resolve]
  have he : (#[x, Operand.func cf] : Array Operand).map a.eval = #[.slice (some ⟨g, 0, none⟩) xs.toArray.size cap, .func (.func cf) #[] #[]] := by simp [hev]; rfl
  rw [he]
  simp [Act.eval, Deferred.ofValue, invoke, Tryz.call79]
 refine wpList_plain rfl fun K hK => ?_
 unfold Oper.wp
 rw [hrun]
 refine hcon.mono fun e' w' ⟨he, d', n, os, hp1, hs, hw'⟩ => ?_
 subst he
 subst hw'
 obtain ⟨q1, _, q3⟩ := hp1
 have hsz : d'.size = xs.length := by simpa using q1
 have hperm : d'.toList.Perm xs := by
  have : xs.toArray.size = d'.size := by simp [hsz]
  rw [this] at q3
  have e1 : d'.extract 0 d'.size = d' := by simp
  have e2 : xs.toArray.extract 0 d'.size = xs.toArray := by rw [hsz]; simp
  rw [e1, e2] at q3
  exact q3
 have hsort : d'.toList.Pairwise (fun a b => ¬ ZAX b a < 0) := by
  rw [List.pairwise_iff_getElem]
  intro i j hi hj hij
  have hi' : i < d'.size := by simpa using hi
  have hj' : j < d'.size := by simpa using hj
  have := hs i j (Nat.zero_le _) hij (by simp; omega)
  rw [getElem!_pos d' i hi', getElem!_pos d' j hj'] at this
  simpa [ltOf] using this
 have hF' : (flatK ZBx 2 d').toList = (d'.toList.map ZBx).flatten := flat_list
 have hFs' : (flatK ZBx 2 d').size = d'.toList.length * 2 := by simp
 have hgr : w.grownBy (sortWorldK ZBx 2 w g 0 n d' os) (ZS (.slice (some ⟨g, 0, none⟩) xs.length cap) e 2 RV xs).blk := grownBy_sortedF _
 have hlen' : d'.toList.length = xs.length := by simpa using hsz
 have hok : (ZS (.slice (some ⟨g, 0, none⟩) xs.length cap) e 2 RV d'.toList).ok (fun k => Imm P0 B (ZS (.slice (some ⟨g, 0, none⟩) xs.length cap) e 2 RV xs :: hp) k /\ k < w.heap.size) (sortWorldK ZBx 2 w g 0 n d' os) := by
  refine ⟨d'.toList.map ZBx, by simp, fun u hu => ?_, by decide, ⟨?_, .inr ⟨g, cap, putCells _root_.id 0 (flatK ZBx 2 d') cur, ?_, hB, heap_sortedF _ hg, by omega, hc2, by simp [putCells, hc3], ?_⟩⟩, fun k h h' => ?_⟩
  ·obtain ⟨y, _, rfl⟩ := List.mem_map.1 hu
   exact ⟨rfl, by simp [ZBx, Value.oneCell']⟩
  ·rw [<- hF', Array.length_toList, hFs']
  ·rw [hlen']
  ·rw [<- hFs', <- hF']
   exact take_putCellsF _ _ (by rw [hFs', hlen', hc3]; exact Nat.mul_le_mul_right _ hc1)
  ·show Value.agg _ = _
   rw [List.getElem_map]
   rfl
 exact hK _ _ ((h d'.toList hperm hsort).on (hh.write hgr (.inl rfl) hok) (Fr.put (hf.mono fun _ _ hd => ZI (o' := ZS (.slice (some ⟨g, 0, none⟩) xs.length cap) e 2 RV d'.toList) hgr (.inl rfl) hd) (d := dA) trivial))
theorem WL.sortV {x : Operand} {v : Value} {e : TypeId} {xs : List Vx} {ats : Array TypeId} (hx : OpD fr x (dX v)) (_hne : 0 < xs.length) (hlen : xs.length < 4611686018427387904)
  (h : ∀ ys : List Vx, ys.Perm xs -> ys.Pairwise (fun a b => ¬ ZAX b a < 0) -> WL Tryz.prog ops Q rest (ZB fr dst dA) (ZS v e 2 RV ys :: hp)) :
  WL Tryz.prog ops Q ({ dst := dst, op := .call { callee := .value (.func 79), args := #[x, .func 120], argTypes := ats }, type := ty, pos := ps, after := af, guard := none } :: rest) fr (ZS v e 2 RV xs :: hp) :=
 WL.sortVG Tryz.call120 (fun x y w => M.order_x x y w) hx hlen h
end
end
section
open Go.RowKit

set_option maxHeartbeats 4000000 in
theorem of_p (l : List Vx) (hl : l.length <= 100) : Fn Tryz.prog 101 [dS ZF l] (dT [dS ZF (ofV l).1, dI (ofV l).2]) := by
 (refine ZAa Tryz.func101 rfl rfl ?_; simp only [Tryz.ntmps101, List.length_cons, List.length_nil, Nat.reduceAdd, Nat.reduceSub, List.replicate_succ, List.replicate_zero, List.cons_append, List.nil_append])
 ((repeat' (first | (apply WL.opN; exact yF; dsimp only [ZB, z0, z1]) | refine WL.nil ?_ | refine ZA fun Kx hK => ?_ | (refine hK _ _ ?_; clear hK) | refine WC.region ?_ | (apply WL.opN; (focus ((first | exact yEql | exact ZBV | fail); all_goals infer_instance)); dsimp only [ZB, z0, z1]) | (apply ZC; (exact oD); all_goals (intro h; try exact xD)) | refine WC.skip ?_ | refine WC.ret ?_ | refine WC.block ?_ | refine ThenD.r ?_)); all_goals (first | refine WC.id ?_ | ((repeat clear hK); (repeat clear Kx))))
 ·(refine ⟨trivial, ⟨_, rfl, ?_⟩, _, rfl, ?_⟩ <;> (first | refine FinD.i ?_ | refine ZBe (by decide) ?_)) <;> ((unfold ofV; (repeat' split)) <;> (first | rfl | (exfalso; first | contradiction | omega) | (simp_all; done)))
 ·have hne : l.length ≠ 0 := by omega
  (refine WC.loopU (X := Nat) (fun k => [(12, dI (k : Int)), (2, dA), (3, dA), (5, dA), (13, dA), (14, dA), (15, dA), (16, dA), (17, dA), (18, dA), (19, dA)]) (fun k => []) (fun k => l.length - k) (fun k => k <= l.length /\ (l.take k).all rngV = true) 0 ?start ?frame0 ?objs0 ?round)
  case start => simp
  case frame0 => ((try dsimp only [ZL, z0, z1]); repeat (first | exact LeF.nil | refine ZD (k := ?_)))
  case objs0 => rfl
  case round =>
   rintro k ⟨h1, h2⟩
   dsimp only [ZL, z0, z1]
   ((repeat' (first | (apply WL.opN; exact yF; dsimp only [ZB, z0, z1]) | refine WL.nil ?_ | refine ZA fun Kx hK => ?_ | (refine hK _ _ ?_; clear hK) | (refine Kont.skip ?_; clear hK) | refine WC.region ?_ |  (apply WL.outRow (by decide) (clone_k l (by omega)) Tryz.call82; (exact aD); intro vc; dsimp only [ZB, z0, z1]) |  (apply WL.sortV; exact OpD.t rfl; omega; omega; intro ys hperm hsort; dsimp only [ZB, z0, z1]) |  (refine WL.inRow (compact_k ys vc hsort (by rw [hperm.length_eq]; omega)) Tryz.call128 ?_ ?_; (exact aD); intro vd zs hzs; dsimp only [ZB, z0, z1]) | (apply WL.alloc; (exact tzV); (first | exact ZW rfl | exact Zs); (intro _; dsimp only [ZB, z0, z1])) | (apply WL.storeF; (exact tD); rfl; (exact oD); (exact hD); dsimp only [ZB, z0, z1]) | (apply WL.opN; (focus ((first | (apply SY.call (possible_p _) Tryz.call122; (exact aD)) | exact ZBu | exact yGtr | exact yNot | exact yAdd | exact ZBV | exact ZT | fail); all_goals infer_instance)); dsimp only [ZB, z0, z1]) | (apply ZC; (exact oD); all_goals (intro h; try exact xD)) | (apply Zk; (exact oD); all_goals (intro h; try exact xD)) | refine WC.skip ?_ | refine WC.ret ?_ | refine WC.exit ?_ | refine WC.block ?_ | refine ThenD.n ?_ | refine ThenD.r ?_ | refine InBlockD.r ?_)); all_goals (first | ((repeat clear hK); (repeat clear Kx))))
   ·have h3 : l.all rngV = false := by rw [List.all_eq_false]; exact ⟨l[k], List.getElem_mem _, by simp [h]⟩
    (refine ⟨trivial, ⟨_, rfl, ?_⟩, _, rfl, ?_⟩ <;> (first | refine FinD.i ?_ | refine ZBe (by decide) ?_)) <;> ((unfold ofV; (repeat' split)) <;> (first | rfl | (exfalso; first | contradiction | omega) | (simp_all; done)))
   ·(refine ⟨k + 1, ?_, by first | omega | (simp only; omega), rfl, ?_⟩; rotate_left; ((try dsimp only [ZL, z0, z1]); repeat (first | exact LeF.nil | refine ZD (k := ?_))); (try dsimp only))
    exact ⟨by omega, by rw [all_snoc (by omega), h2, h]; rfl⟩
   all_goals
    have h3 : l.all rngV = true := by rw [List.take_of_length_le (by omega)] at h2; exact h2
    have hz : zs = ZBF [] l := ZCa hzs.1 (ZCf (by simp [Asc])) fun u => by rw [hzs.2, ZAq, hperm.mem_iff]; simp
    clear h2
    subst hz
    (refine ⟨trivial, ⟨_, rfl, ?_⟩, _, rfl, ?_⟩ <;> (first | refine FinD.i ?_ | refine ZCI (.head _) ?_ | refine ZBe (by decide) ?_)) <;> ((unfold ofV; (repeat' split)) <;> (first | rfl | (exfalso; first | contradiction | omega) | (simp_all; done)))

end
end Go.Proofs.YtmcllakdbgnfiaaGreatDoor
namespace Go.Proofs
section
open Go.Shelf
def Tryz.growV_ren : Go.Shelf.Ren := ⟨fun | 4 => 151 | n => n, fun | 22 => 28 | 25 => 45 | 3 => 3 | 4 => 4 | 9 => 9 | 20 => 20 | 0 => 0 | 2 => 3 | n => n, fun | n => n⟩
theorem Tryz.growV : Go.Proofs.Lays8.n4 Tryz.prog Tryz.growV_ren := {
 mixed := by kernel_rfl
 f4 := ⟨Tryz.f151.name, by decide, Tryz.func151.trans (congrArg some (by kernel_rfl))⟩
 t0 := Tryz.underlying0
 a0 := Tryz.isAgg0
 z0 := Tryz.sizeOf0
 v0 := Tryz.zeroValue0
 t3 := Tryz.underlying3
 a3 := Tryz.isAgg3
 z3 := Tryz.sizeOf3
 v3 := Tryz.zeroValue3
 t4 := Tryz.underlying4
 a4 := Tryz.isAgg4
 z4 := Tryz.sizeOf4
 v4 := Tryz.zeroValue4
 t9 := Tryz.underlying9
 a9 := Tryz.isAgg9
 z9 := Tryz.sizeOf9
 v9 := Tryz.zeroValue9
 t20 := Tryz.underlying20
 a20 := Tryz.isAgg20
 z20 := Tryz.sizeOf20
 v20 := Tryz.zeroValue20
 t22 := Tryz.underlying28
 a22 := Tryz.isAgg28
 z22 := Tryz.sizeOf28
 v22 := Tryz.zeroValue28 }
end
end Go.Proofs
namespace Go.Proofs.YtmcllakdbgnfiaaGreatDoor
section
open Go.RowKit

section
variable {ops : Array Oper} {hp : List HObj} {fr : List Dat} {Q : Z1} {rest : List Oper} {dst : Option Tmp} {ty : TypeId} {ps : String} {af : Array Edge}
theorem WL.growV {x : Operand} {n : Nat} {ats : Array TypeId} (hx : OpD fr x (dI (n : Int))) (h0 : 0 < n) (hn : n <= 1000)
  (h : ∀ v : Value, WL Tryz.prog ops Q rest (ZB fr dst (dX v)) (ZS v 45 2 RV ([] : List Vx) :: hp)) :
  WL Tryz.prog ops Q ({ dst := dst, op := .call { callee := .value (.func 151), args := #[.const (.slice none 0 0), x], argTypes := ats }, type := ty, pos := ps, after := af, guard := none } :: rest) fr hp := by
 refine WL.of fun P0 B w0 w a hh hf => ?_
 obtain ⟨i, hi', hz, hs, hb⟩ := info_parts elV.info
 have hcon := Any8.slices_Grow_grow Tryz.growV i _ hi' hz (by omega) none 0 0 n [] w (Nat.le_refl _) (by omega) (by rw [hb]; omega) (by omega) (by simp) (fun _ => rfl) (by simp)
 change Calls Tryz.prog 151 _ _ _ at hcon
 have hev : a.eval x = .int .i64 (n : Int) := hx.ev hf
 have hrun : (execOp a.eval { dst := dst, op := .call { callee := .value (.func 151), args := #[.const (.slice none 0 0), x], argTypes := ats }, type := ty, pos := ps, after := af, guard := none }).run Tryz.prog w = .ok (.enter 151 #[.slice none 0 0, .int .i64 n]) w := by
  unfold execOp
  simp only [resolve]
  have he : (#[Operand.const (.slice none 0 0), x] : Array Operand).map a.eval = #[.slice none 0 0, .int .i64 n] := by simp [hev]; rfl
  rw [he]
  simp [Act.eval, Deferred.ofValue, invoke, Tryz.call151]
 refine wpList_plain rfl fun K hK => ?_
 unfold Oper.wp
 rw [hrun]
 refine hcon.mono fun e' w' ⟨he, hw'⟩ => ?_
 subst he
 subst hw'
 have hge := grownCap_ge w (0 + n) 0 45
 have hle := grownCap_le_maxLen w (0 + n) 0 45 (by unfold maxLen; omega)
 have hG : grownCap w (0 + n) 0 (Tryz.growV_ren.t 25) = grownCap w (0 + n) 0 45 := rfl
 rw [hG]
 generalize grownCap w (0 + n) 0 45 = G at hge hle
 have hx2 : Ext w (w.drew.alloc (.cells (([] : List Value).toArray ++ Builtin.zeroCells (Value.agg #[.int .i64 0, .int .i64 0]).cells (0 + n - 0) ++ Builtin.zeroCells (Value.agg #[.int .i64 0, .int .i64 0]).cells (G - (0 + n))) (Tryz.growV_ren.t 25))) := (Ext.refl w).drew.alloc _
 have hb2 : ∀ k, (ZS (.slice (some ⟨w.heap.size, 0, none⟩) 0 G) 45 2 RV ([] : List Vx)).blk = some k -> w.heap.size <= k /\ k < (w.drew.alloc (.cells (([] : List Value).toArray ++ Builtin.zeroCells (Value.agg #[.int .i64 0, .int .i64 0]).cells (0 + n - 0) ++ Builtin.zeroCells (Value.agg #[.int .i64 0, .int .i64 0]).cells (G - (0 + n))) (Tryz.growV_ren.t 25))).heap.size := fun k hk => by
  cases hk
  exact ⟨Nat.le_refl _, by rw [World.size_alloc]; exact Nat.lt_succ_self _⟩
 refine hK _ _ ((h (.slice (some ⟨w.heap.size, 0, none⟩) 0 G)).on (hh.push hx2 hb2 ?_) (Fr.put (hf.mono fun d _ hd => Za hx2 (fun k hk => (hb2 k hk).1) hd) rfl))
 refine ZBp.2 ⟨rfl, (([] : List Value).toArray ++ Builtin.zeroCells (Value.agg #[.int .i64 0, .int .i64 0]).cells (0 + n - 0) ++ Builtin.zeroCells (Value.agg #[.int .i64 0, .int .i64 0]).cells (G - (0 + n))).toList, ?_, by simp, by omega, ?_⟩
 ·have := Ze w.drew (.cells (([] : List Value).toArray ++ Builtin.zeroCells (Value.agg #[.int .i64 0, .int .i64 0]).cells (0 + n - 0) ++ Builtin.zeroCells (Value.agg #[.int .i64 0, .int .i64 0]).cells (G - (0 + n))) (Tryz.growV_ren.t 25))
  rw [ZBm, List.nil_append, Array.toArray_toList]
  exact this
 ·rw [ZBm, List.nil_append]
  simp [Builtin.zeroCells, Value.cells]
  omega
end
theorem ZBX {s : List Vx} (h : Zn s = 0) : 1 <= s.length /\ s.length <= 8 := by have := ZM.1 h; omega
end
end Go.Proofs.YtmcllakdbgnfiaaGreatDoor
