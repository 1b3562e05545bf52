/- Part 20: walks by contracts, and plain laws. -/
import Derived.Shelf.SlSortCmp.NoneTotal
import Derived.Shelf.Spec.SlicesGrow
import Derived.Test.YtgppfikidagfpaaGreatDoorVf18
import Derived.Test.YtgppfikidagfpaaGreatDoorVf19
set_option linter.unusedVariables false
set_option linter.unusedSimpArgs false
set_option linter.unusedSectionVars false
namespace Go.Proofs.YtgppfikidagfpaaGreatDoor.M
open Go.RowKit

theorem nan_p (x : Int) : Fn Tryz.prog 177 [dI x] (dB false) := by
  (refine Fn.intro1 Tryz.func177 rfl rfl ?_; simp only [Tryz.ntmps177, List.length_cons, List.length_nil, Nat.reduceAdd, Nat.reduceSub, List.replicate_succ, List.replicate_zero, List.cons_append, List.nil_append])
  ((repeat' (first | (apply WL.opG; (focus (apply SYG.yes; (exact want_none rfl); (first | (apply SY.move <;> (exact oD)) | (apply SY.assign <;> (exact oD))))); dsimp only [setD, z0, z1]) | refine WL.nil ?_ | refine WC.seqK fun Kx hK => ?_ | (refine hK _ _ ?_; clear hK) | refine WC.region ?_ | (apply WL.opG; (focus (apply SYG.yes; (exact want_none rfl); ((first | ((first | apply SY.move | apply SY.assign | apply SY.neq) <;> (exact oD)) | fail); all_goals infer_instance))); dsimp only [setD, z0, z1]) | refine WC.ret ?_)); all_goals (first | ((repeat clear hK); (repeat clear Kx))))
  all_goals ((refine ⟨trivial, _, rfl, ?_⟩; refine FinD.b ?_); simp)
theorem cmpI_p (x y : Int) : Fn Tryz.prog 155 [dI x, dI y] (dI (cmpI x y)) := by
  (refine Fn.intro1 Tryz.func155 rfl rfl ?_; simp only [Tryz.ntmps155, List.length_cons, List.length_nil, Nat.reduceAdd, Nat.reduceSub, List.replicate_succ, List.replicate_zero, List.cons_append, List.nil_append])
  ((repeat' (first | (apply WL.opG; (focus (apply SYG.yes; (exact want_none rfl); (first | (apply SY.move <;> (exact oD)) | (apply SY.assign <;> (exact oD))))); dsimp only [setD, z0, z1]) | refine WL.nil ?_ | refine WC.seqK fun Kx hK => ?_ | (refine hK _ _ ?_; clear hK) | refine WC.region ?_ | (apply WL.opG; (focus (apply SYG.yes; (exact want_none rfl); ((first | (apply SY.call (nan_p _) Tryz.call177; (exact aD)) | ((first | apply SY.move | apply SY.assign | apply SY.lss | apply SY.gtr) <;> (exact oD)) | fail); all_goals infer_instance))); dsimp only [setD, z0, z1]) | (apply WC.condF; (exact oD); (with_reducible rfl)) | (apply WC.condD; (exact oD); (all_goals intro h); (all_goals try (exfalso; first | omega | contradiction))) | refine WC.skip ?_ | refine WC.ret ?_ | refine ThenD.r ?_)); all_goals (first | ((repeat clear hK); (repeat clear Kx))))
  all_goals ((refine ⟨trivial, _, rfl, ?_⟩; refine FinD.i ?_); unfold cmpI; simp [*])
  all_goals omega
theorem orI_p (l : List Int) : Fn Tryz.prog 154 [dS Ints l] (dI (orI l)) := by
  (refine Fn.intro1 Tryz.func154 rfl rfl ?_; simp only [Tryz.ntmps154, List.length_cons, List.length_nil, Nat.reduceAdd, Nat.reduceSub, List.replicate_succ, List.replicate_zero, List.cons_append, List.nil_append])
  (repeat' (first | (apply WL.opG; (focus (apply SYG.yes; (exact want_none rfl); (first | (apply SY.move <;> (exact oD)) | (apply SY.assign <;> (exact oD)) | (apply SY.load; (exact tD); (exact OpD.t rfl))))); dsimp only [setD, z0, z1]) | refine WL.nil ?_ | refine WC.seqK fun Kx hK => ?_ | (refine hK _ _ ?_; clear hK) | refine WC.region ?_ | (apply WL.opG; (focus (apply SYG.yes; (exact want_none rfl); ((first | (apply SY.len; (exact oD); (exact nD); (exact uD)) | fail); all_goals infer_instance))); dsimp only [setD, z0, z1]) | refine WC.block ?_))
  (first | refine WC.know (t := 0) rfl le_K fun hl0 => ?_ | refine WC.know (t := 0) rfl le_A fun hl0 => ?_); simp only [maxLen] at hl0
  (refine WC.loopU (X := Nat) (fun k => [(8, dI (k : Int)), (2, dA), (5, dA), (9, dA), (10, dA), (11, dA), (12, dA), (13, dA), (14, dA), (15, dA), (16, dA)]) (fun k => []) (fun k => l.length - k) (fun k => k ≤ l.length ∧ orI l = orI (l.drop k)) 0 ?start ?frame0 ?objs0 ?round)
  case start => exact ⟨Nat.zero_le _, rfl⟩
  case frame0 => ((try dsimp only [upds, z0, z1]); repeat (first | exact LeF.nil | refine LeF.co (k := ?_)))
  case objs0 => rfl
  case round =>
    rintro k ⟨h1, h2⟩
    dsimp only [upds, z0, z1]
    ((repeat' (first | (apply WL.opG; (focus (apply SYG.yes; (exact want_none rfl); (first | (apply SY.move <;> (exact oD)) | (apply SY.assign <;> (exact oD)) | (apply SY.load; (exact tD); (exact OpD.t rfl))))); dsimp only [setD, z0, z1]) | refine WL.nil ?_ | refine WC.seqK fun Kx hK => ?_ | (refine hK _ _ ?_; clear hK) | (refine Kont.skip ?_; clear hK) | refine WC.region ?_ | (apply WL.opG; (focus (apply SYG.yes; (exact want_none rfl); ((first | ((first | apply SY.move | apply SY.assign | apply SY.lss | apply SY.neq) <;> (exact oD)) | ((first | apply SY.add) <;> first | exact oD | omega) | (apply SY.ix; (exact eD); (exact oD); (exact oD); exact kD) | fail); all_goals infer_instance))); dsimp only [setD, z0, z1]) | (apply WC.condD; (exact oD); (all_goals intro h); (all_goals try (exfalso; first | omega | contradiction))) | (apply WC.condN; (exact oD); (all_goals intro h); (all_goals try (exfalso; first | omega | contradiction))) | refine WC.skip ?_ | refine WC.ret ?_ | refine WC.exit ?_ | refine WC.block ?_ | refine ThenD.n ?_ | refine ThenD.r ?_ | refine InBlockD.r ?_)); all_goals (first | ((repeat clear hK); (repeat clear Kx))))
    · (refine ⟨trivial, _, rfl, ?_⟩; refine FinD.i ?_)
      rw [h2, orI_drop (by omega), if_neg h]
    · (refine ⟨k + 1, ?_, by first | omega | (simp only; omega), rfl, ?_⟩; rotate_left; ((try dsimp only [upds, z0, z1]); repeat (first | exact LeF.nil | refine LeF.co (k := ?_))); (try dsimp only))
      exact ⟨by omega, by rw [h2, orI_drop (by omega), if_pos h]⟩
    · (refine ⟨trivial, _, rfl, ?_⟩; refine FinD.i ?_)
      rw [h2, List.drop_of_length_le (by omega)]; rfl
theorem order_p (x y : Vx) : Fn Tryz.prog 130 [dS RV x, dS RV y] (dI (cmpV x y)) := by
  (refine Fn.intro1 Tryz.func130 rfl rfl ?_; simp only [Tryz.ntmps130, List.length_cons, List.length_nil, Nat.reduceAdd, Nat.reduceSub, List.replicate_succ, List.replicate_zero, List.cons_append, List.nil_append])
  ((repeat' (first | ((first | apply WL.opG | apply WD.op); (focus (apply SYG.yes; (exact want_none rfl); (first | (apply SY.assign <;> (exact oD)) | (apply SY.load; (exact tD); (exact OpD.t rfl))))); dsimp only [setD, z0, z1]) | refine WL.nil ?_ | refine WD.nil ?_ | refine WC.seqK fun Kx hK => ?_ | (refine hK _ _ ?_; clear hK) | refine WC.region ?_ | (apply WC.draw; kernel_rfl; kernel_rfl) | ((first | apply WL.opG | apply WD.op); (focus (apply SYG.yes; (exact want_none rfl); ((first | (apply SY.call (cmpI_p _ _) Tryz.call155; (exact aD)) | (apply SY.call (orI_p [_, _]) Tryz.call154; (exact aD)) | (first | (apply SY.fld0 vxT <;> (exact oD)) | (apply SY.fld1 vxT <;> (exact oD))) | (apply SY.build1'; (exact eD); ((try simp only [List.map_cons, List.map_nil]); (repeat (first | exact ElsD.nl | (apply ElsD.cn; (first | exact OpD.t rfl | exact OpD.i | exact OpD.b | exact OpD.tle rfl (by first | exact Dat.le_nil | exact Dat.le_nilK (by decide)) | exact ⟨Dat.le_nil⟩ | exact ⟨Dat.le_nilK (by decide)⟩))))); rfl; rfl; (intro _; first | exact shape_K | exact shape_I | exact shape_A | exact shape_B); (exact (by simp))) | (apply SY.box; (exact oD); (exact hD)) | fail); all_goals infer_instance))); dsimp only [setD, z0, z1]) | refine WC.ret ?_)); all_goals (first | ((repeat clear hK); (repeat clear Kx))))
  all_goals ((refine ⟨trivial, _, rfl, ?_⟩; refine FinD.i ?_); exact cmpV_or _ _)
theorem Ext.grow {w w' : World} (h : Ext w w') : ∃ q os', w' = Go.Sort.grow (w.drewN q) os' := by
  refine ⟨w'.drawn - w.drawn, w'.heap.extract w.heap.size w'.heap.size, ?_⟩
  have hd := h.d
  have hs := h.b.size
  have hh : w'.heap = w.heap ++ w'.heap.extract w.heap.size w'.heap.size := by
    apply Array.ext
    · simp; omega
    · intro i h1 h2
      by_cases hi : i < w.heap.size
      · have := h.b.block i hi
        rw [Array.getElem?_eq_getElem h1, Array.getElem?_eq_getElem hi] at this
        rw [Array.getElem_append_left hi]
        exact Option.some.inj this
      · rw [Array.getElem_append_right (by omega), Array.getElem_extract]
        congr 1
        omega
  unfold Go.Sort.grow World.drewN
  cases w'
  cases w
  simp only at hd hh
  have h1 := h.b.os; have h2 := h.b.tape; have h3 := h.b.output
  simp only at h1 h2 h3
  subst h1; subst h2; subst h3
  simp only [World.mk.injEq, true_and, and_true]
  exact ⟨hh, by omega⟩
theorem order_x (x y : Vx) (w : World) : Calls Tryz.prog 130 #[.agg #[.int .i64 x.1, .int .i64 x.2], .agg #[.int .i64 y.1, .int .i64 y.2]] w fun e w' => e = .returned (.int .i64 (cmpV x y)) ∧ ∃ q os', w' = Go.Sort.grow (w.drewN q) os' := by
  have := (order_p x y).out (fun _ => True) w [.agg #[.int .i64 x.1, .int .i64 x.2], .agg #[.int .i64 y.1, .int .i64 y.2]] rfl (fun i d hd => by
    match i with
    | 0 => cases hd; rfl
    | 1 => cases hd; rfl
    | i + 2 => simp at hd)
  exact this.mono fun e w' ⟨v, h1, h2, h3⟩ => ⟨by rw [h1]; exact congrArg _ h3, h2.grow⟩

end Go.Proofs.YtgppfikidagfpaaGreatDoor.M
namespace Go.Proofs
open Go.Shelf
def Tryz.sortV_ren : Go.Shelf.Ren := ⟨fun | 6 => 119 | 15 => 152 | 14 => 151 | 28 => 175 | 29 => 176 | 20 => 167 | 21 => 168 | 22 => 169 | 23 => 170 | 24 => 171 | 25 => 172 | 26 => 173 | 27 => 174 | 46 => 189 | 47 => 190 | 48 => 191 | 49 => 192 | 50 => 193 | 57 => 201 | n => n, fun | 22 => 22 | 24 => 52 | 25 => 89 | 3 => 3 | 39 => 187 | 0 => 0 | 53 => 207 | 55 => 209 | 4 => 4 | 46 => 201 | 45 => 200 | 50 => 119 | 5 => 5 | 9 => 9 | 66 => 218 | 70 => 222 | 76 => 230 | 77 => 231 | n => n, fun | n => n⟩
theorem Tryz.sortV : Go.Proofs.SlLaysF0.n6 Tryz.prog Tryz.sortV_ren := {
  mixed := by kernel_rfl
  f6 := ⟨Tryz.f119.name, by decide, Tryz.func119.trans (congrArg some (by kernel_rfl))⟩
  f14 := ⟨Tryz.f151.name, by decide, Tryz.func151.trans (congrArg some (by kernel_rfl))⟩
  f15 := Tryz.func152.trans (congrArg some (by kernel_rfl))
  f20 := ⟨Tryz.f167.name, by decide, Tryz.func167.trans (congrArg some (by kernel_rfl))⟩
  f21 := ⟨Tryz.f168.name, by decide, Tryz.func168.trans (congrArg some (by kernel_rfl))⟩
  f22 := ⟨Tryz.f169.name, by decide, Tryz.func169.trans (congrArg some (by kernel_rfl))⟩
  f23 := ⟨Tryz.f170.name, by decide, Tryz.func170.trans (congrArg some (by kernel_rfl))⟩
  f24 := ⟨Tryz.f171.name, by decide, Tryz.func171.trans (congrArg some (by kernel_rfl))⟩
  f25 := ⟨Tryz.f172.name, by decide, Tryz.func172.trans (congrArg some (by kernel_rfl))⟩
  f26 := ⟨Tryz.f173.name, by decide, Tryz.func173.trans (congrArg some (by kernel_rfl))⟩
  f27 := ⟨Tryz.f174.name, by decide, Tryz.func174.trans (congrArg some (by kernel_rfl))⟩
  f28 := Tryz.func175.trans (congrArg some (by kernel_rfl))
  f29 := Tryz.func176.trans (congrArg some (by kernel_rfl))
  f46 := ⟨Tryz.f189.name, by decide, Tryz.func189.trans (congrArg some (by kernel_rfl))⟩
  f47 := Tryz.func190.trans (congrArg some (by kernel_rfl))
  f48 := Tryz.func191.trans (congrArg some (by kernel_rfl))
  f49 := ⟨Tryz.f192.name, by decide, Tryz.func192.trans (congrArg some (by kernel_rfl))⟩
  f50 := ⟨Tryz.f193.name, by decide, Tryz.func193.trans (congrArg some (by kernel_rfl))⟩
  f57 := ⟨Tryz.f201.name, by decide, Tryz.func201.trans (congrArg some (by kernel_rfl))⟩
  t0 := Tryz.underlying0
  a0 := Tryz.isAgg0
  z0 := Tryz.sizeOf0
  v0 := Tryz.zeroValue0
  t3 := Tryz.underlying3
  a3 := Tryz.isAgg3
  z3 := Tryz.sizeOf3
  v3 := Tryz.zeroValue3
  t4 := Tryz.underlying4
  a4 := Tryz.isAgg4
  z4 := Tryz.sizeOf4
  v4 := Tryz.zeroValue4
  t5 := Tryz.underlying5
  a5 := Tryz.isAgg5
  z5 := Tryz.sizeOf5
  v5 := Tryz.zeroValue5
  t9 := Tryz.underlying9
  a9 := Tryz.isAgg9
  z9 := Tryz.sizeOf9
  v9 := Tryz.zeroValue9
  t22 := Tryz.underlying22
  a22 := Tryz.isAgg22
  z22 := Tryz.sizeOf22
  v22 := Tryz.zeroValue22
  t25 := Tryz.underlying89
  a25 := Tryz.isAgg89
  z25 := Tryz.sizeOf89
  v25 := Tryz.zeroValue89
  t39 := Tryz.underlying187
  a39 := Tryz.isAgg187
  z39 := Tryz.sizeOf187
  v39 := Tryz.zeroValue187
  t45 := Tryz.underlying200
  a45 := Tryz.isAgg200
  z45 := Tryz.sizeOf200
  v45 := Tryz.zeroValue200
  t46 := Tryz.underlying201
  a46 := Tryz.isAgg201
  z46 := Tryz.sizeOf201
  v46 := Tryz.zeroValue201
  t50 := Tryz.underlying119
  a50 := Tryz.isAgg119
  z50 := Tryz.sizeOf119
  v50 := Tryz.zeroValue119
  t53 := Tryz.underlying207
  a53 := Tryz.isAgg207
  z53 := Tryz.sizeOf207
  v53 := Tryz.zeroValue207
  t55 := Tryz.underlying209
  a55 := Tryz.isAgg209
  z55 := Tryz.sizeOf209
  v55 := Tryz.zeroValue209
  t66 := Tryz.underlying218
  a66 := Tryz.isAgg218
  z66 := Tryz.sizeOf218
  v66 := Tryz.zeroValue218
  t70 := Tryz.underlying222
  a70 := Tryz.isAgg222
  z70 := Tryz.sizeOf222
  v70 := Tryz.zeroValue222
  t76 := Tryz.underlying230
  a76 := Tryz.isAgg230
  z76 := Tryz.sizeOf230
  v76 := Tryz.zeroValue230
  t77 := Tryz.underlying231
  a77 := Tryz.isAgg231
  z77 := Tryz.sizeOf231
  v77 := Tryz.zeroValue231 }
end Go.Proofs
namespace Go.Proofs.YtgppfikidagfpaaGreatDoor
open Go.RowKit Go.Sort Go.Shelf

theorem swoV : SWO (ltOf cmpV) where
  irrefl x := by simp [ltOf, cmpV_eq.2 (rfl : x = x)]
  trans x y z h h' := by
    simp only [ltOf, decide_eq_true_eq] at *
    exact cmpV_trans h h'
  ntrans x y z h h' := by
    simp only [ltOf, decide_eq_false_iff_not] at *
    intro hc
    rcases cmpV_cases x y with k | k | k
    · omega
    · have := cmpV_trans (a := y) (b := x) (c := z) (by omega) hc
      exact h' this
    · exact h' (k.2.2 ▸ hc)
theorem flat_list {d : Array Vx} : (flatK encV 2 d).toList = (d.toList.map encV).flatten := by
  apply List.ext_getElem?
  intro t
  have hl : ∀ u ∈ d.toList.map encV, u.length = 2 := fun u hu => by obtain ⟨x, _, rfl⟩ := List.mem_map.1 hu; rfl
  have hlen : ((d.toList.map encV).flatten).length = d.size * 2 := by
    rw [List.length_flatten]
    have : (List.map List.length (d.toList.map encV)) = List.replicate d.size 2 := by
      rw [List.eq_replicate_iff]
      refine ⟨by simp, fun b hb => ?_⟩
      obtain ⟨u, hu, rfl⟩ := List.mem_map.1 hb
      exact hl u hu
    rw [this]; simp
  by_cases ht : t < d.size * 2
  · have h1 : t / 2 < (d.toList.map encV).length := by simp; omega
    have h2 : t % 2 < 2 := Nat.mod_lt _ (by decide)
    have h3 : ((d.toList.map encV)[t / 2]'h1)[t % 2]? = some ((encV (d[t / 2]'(by omega)))[t % 2]'(by simp [encV]; omega)) := by
      simp
    have h4 := flatten_get hl h1 h3
    have h5 : t / 2 * 2 + t % 2 = t := by omega
    rw [h5] at h4
    rw [h4]
    have h6 := get_flatK encV 2 d t ht
    rw [Array.getElem?_toList]
    have h7 : t < (flatK encV 2 d).size := by simp; omega
    rw [getElem!_pos _ t h7, getElem!_pos d (t / 2) (by omega), getElem!_pos _ (t % 2) (by simp [encV]; omega)] at h6
    rw [Array.getElem?_eq_getElem h7, h6]
  · rw [List.getElem?_eq_none (by simp; omega), List.getElem?_eq_none (by omega)]
section
variable {w : World} {g n cap : Nat} {os : Array Obj} {cur : Array Value} {e : TypeId} {fz : Nat × Nat}
theorem holds_of_row {F : Array Value} (hb : w.heap[g]? = some (.cells cur e (0, 0))) (ht : cur.toList.take F.size = F.toList) : Holds id w g 0 F := by
  intro j hj
  refine ⟨?_, by simp [World.frozen?, hb]⟩
  have h1 : (cur.toList.take F.size)[j]? = F.toList[j]? := by rw [ht]
  rw [List.getElem?_take_of_lt hj] at h1
  simp only [World.cell?, hb, Nat.zero_add]
  simp only [Option.isSome_none, Bool.false_eq_true, if_false]
  rw [← Array.getElem?_toList, h1, getElem!_pos _ j hj]
  simp [hj]
theorem heap_sortedF (F : Array Value) (hb : w.heap[g]? = some (.cells cur e fz)) :
    (grow (putRow id (Sort.ahead w n) g 0 F) os).heap[g]? = some (.cells (putCells id 0 F cur) e fz) := by
  have hg : g < w.heap.size := (Array.getElem?_eq_some_iff.1 hb).1
  rw [heap_grow_old _ _ (by simpa using hg)]
  simp [putRow, mapBlock, Sort.ahead, Array.getElem?_modify, hb, onCells]
theorem grownBy_sortedF (F : Array Value) : w.grownBy (grow (putRow id (Sort.ahead w n) g 0 F) os) (some g) := by
  refine ⟨rfl, rfl, rfl, by simp, fun k hk hne => ?_⟩
  rw [heap_grow_old _ _ (by simpa using hk)]
  have : g ≠ k := fun e => hne (by rw [e])
  simp [putRow, mapBlock, Sort.ahead, Array.getElem?_modify, this]
theorem take_putCellsF (cur F : Array Value) (h : F.size ≤ cur.size) : (putCells id 0 F cur).toList.take F.size = F.toList := by
  apply List.ext_getElem?
  intro j
  by_cases hj : j < F.size
  · rw [List.getElem?_take_of_lt hj, Array.getElem?_toList]
    simp [putCells, hj, show j < cur.size by omega]
  · rw [List.getElem?_take_eq_none (by omega), List.getElem?_eq_none (by simp; omega)]
end
section
variable {ops : Array Oper} {hp : List HObj} {fr : List Dat} {Q : Post} {rest : List Oper} {dst : Option Tmp} {ty : TypeId} {ps : String} {af : Array Edge}
theorem WL.sortVG {cf : FuncId} (hce : Enters Tryz.prog cf) (hcx : ∀ (x y : Vx) (w : World), Calls Tryz.prog cf #[.agg #[.int .i64 x.1, .int .i64 x.2], .agg #[.int .i64 y.1, .int .i64 y.2]] w fun e w' => e = .returned (.int .i64 (cmpV x y)) ∧ ∃ q os', w' = Go.Sort.grow (w.drewN q) os') {x : Operand} {v : Value} {e : TypeId} {xs : List Vx} {ats : Array TypeId} (hx : OpD fr x (dX v)) (hlen : xs.length < 4611686018427387904)
    (h : ∀ ys : List Vx, ys.Perm xs → ys.Pairwise (fun a b => ¬ cmpV b a < 0) → WL Tryz.prog ops Q rest (setD fr dst dA) (hRowK v e 2 RV ys :: hp)) :
    WL Tryz.prog ops Q ({ dst := dst, op := .call { callee := .value (.func 119), args := #[x, .func cf], argTypes := ats }, type := ty, pos := ps, after := af, guard := none } :: rest) fr (hRowK v e 2 RV xs :: hp) := by
  refine WL.of fun P0 B w0 w a hh hf => ?_
  have hok := hh.ok (hRowK v e 2 RV xs) (by simp)
  obtain ⟨us, h1, h2, h0, h3, h4⟩ := hok
  have hus := us_encV h1 h4
  subst hus
  have hev : a.eval x = v := hx.ev hf
  obtain ⟨hfl, hv⟩ := h3
  by_cases hne0 : xs = []
  · subst hne0
    have hv0 : ∃ p cap, v = .slice p 0 cap := by
      rcases hv with ⟨hv, _⟩ | ⟨g, cap, cur, hv, _⟩
      · exact ⟨_, _, hv⟩
      · exact ⟨_, _, hv⟩
    obtain ⟨p, cap, hv0⟩ := hv0
    have hcon := AnyF.slices_SortFunc_none (P := Tryz.prog) (ρ := Tryz.sortV_ren) Tryz.sortV p cap (.func (.func cf) #[] #[]) w
    change Calls Tryz.prog 119 _ _ _ at hcon
    have hrun : (execOp a.eval { dst := dst, op := .call { callee := .value (.func 119), args := #[x, .func cf], argTypes := ats }, type := ty, pos := ps, after := af, guard := none }).run Tryz.prog w = .ok (.enter 119 #[v, .func (.func cf) #[] #[]]) w := by
      unfold execOp
      simp only [resolve]
      have he : (#[x, Operand.func cf] : Array Operand).map a.eval = #[v, .func (.func cf) #[] #[]] := by simp [hev]; rfl
      rw [he]
      simp [Act.eval, Deferred.ofValue, invoke, Tryz.call119]
    refine wpList_plain rfl fun K hK => ?_
    unfold Oper.wp
    rw [hrun, hv0]
    refine hcon.mono fun e' w' ⟨he, hw'⟩ => ?_
    subst he
    subst hw'
    exact hK _ _ ((h [] (List.Perm.refl _) List.Pairwise.nil).on hh (hf.put (d := dA) trivial))
  have hne : 0 < xs.length := List.length_pos_iff.2 hne0
  rcases hv with ⟨_, hz⟩ | ⟨g, cap, cur, hv, hB, hg, hc1, hc2, hc3, hc4⟩
  · omega
  have hgb : g < w.heap.size := (Array.getElem?_eq_some_iff.1 hg).1
  have hF : (flatK encV 2 xs.toArray).toList = (xs.map encV).flatten := by rw [flat_list]
  have hFs : (flatK encV 2 xs.toArray).size = xs.length * 2 := by simp
  have hH : HoldsK encV 2 w g 0 xs.toArray := holds_of_row hg (by rw [hFs, hF]; exact hc4)
  have hcon := AnyQ.slices_SortFunc Tryz.sortV 2 Tryz.isAgg52 Tryz.sizeOf52 encV (fun _ => rfl) (fun x v hv => by simp [encV] at hv; rcases hv with rfl | rfl <;> rfl) cmpV swoV cf #[] g 0 cap xs.toArray w hce
    (fun _ _ _ _ x y => hcx x y _) hH hgb (by simpa using hlen)
  change Calls Tryz.prog 119 _ _ _ at hcon
  subst hv
  have hrun : (execOp a.eval { dst := dst, op := .call { callee := .value (.func 119), args := #[x, .func cf], argTypes := ats }, type := ty, pos := ps, after := af, guard := none }).run Tryz.prog w = .ok (.enter 119 #[.slice (some ⟨g, 0, none⟩) xs.toArray.size cap, .func (.func cf) #[] #[]]) w := by
    unfold execOp
    simp only [resolve]
    have he : (#[x, Operand.func cf] : Array Operand).map a.eval = #[.slice (some ⟨g, 0, none⟩) xs.toArray.size cap, .func (.func cf) #[] #[]] := by simp [hev]; rfl
    rw [he]
    simp [Act.eval, Deferred.ofValue, invoke, Tryz.call119]
  refine wpList_plain rfl fun K hK => ?_
  unfold Oper.wp
  rw [hrun]
  refine hcon.mono fun e' w' ⟨he, d', n, os, hp1, hs, hw'⟩ => ?_
  subst he
  subst hw'
  obtain ⟨q1, _, q3⟩ := hp1
  have hsz : d'.size = xs.length := by simpa using q1
  have hperm : d'.toList.Perm xs := by
    have : xs.toArray.size = d'.size := by simp [hsz]
    rw [this] at q3
    have e1 : d'.extract 0 d'.size = d' := by simp
    have e2 : xs.toArray.extract 0 d'.size = xs.toArray := by rw [hsz]; simp
    rw [e1, e2] at q3
    exact q3
  have hsort : d'.toList.Pairwise (fun a b => ¬ cmpV b a < 0) := by
    rw [List.pairwise_iff_getElem]
    intro i j hi hj hij
    have hi' : i < d'.size := by simpa using hi
    have hj' : j < d'.size := by simpa using hj
    have := hs i j (Nat.zero_le _) hij (by simp; omega)
    rw [getElem!_pos d' i hi', getElem!_pos d' j hj'] at this
    simpa [ltOf] using this
  have hF' : (flatK encV 2 d').toList = (d'.toList.map encV).flatten := flat_list
  have hFs' : (flatK encV 2 d').size = d'.toList.length * 2 := by simp
  have hgr : w.grownBy (sortWorldK encV 2 w g 0 n d' os) (hRowK (.slice (some ⟨g, 0, none⟩) xs.length cap) e 2 RV xs).blk := grownBy_sortedF _
  have hlen' : d'.toList.length = xs.length := by simpa using hsz
  have hok : (hRowK (.slice (some ⟨g, 0, none⟩) xs.length cap) e 2 RV d'.toList).ok (fun k => Imm P0 B (hRowK (.slice (some ⟨g, 0, none⟩) xs.length cap) e 2 RV xs :: hp) k ∧ k < w.heap.size) (sortWorldK encV 2 w g 0 n d' os) := by
    refine ⟨d'.toList.map encV, by simp, fun u hu => ?_, by decide, ⟨?_, .inr ⟨g, cap, putCells _root_.id 0 (flatK encV 2 d') cur, ?_, hB, heap_sortedF _ hg, by omega, hc2, by simp [putCells, hc3], ?_⟩⟩, fun k h h' => ?_⟩
    · obtain ⟨y, _, rfl⟩ := List.mem_map.1 hu
      exact ⟨rfl, by simp [encV, Value.oneCell']⟩
    · rw [← hF', Array.length_toList, hFs']
    · rw [hlen']
    · rw [← hFs', ← hF']
      exact take_putCellsF _ _ (by rw [hFs', hlen', hc3]; exact Nat.mul_le_mul_right _ hc1)
    · show Value.agg _ = _
      rw [List.getElem_map]
      rfl
  exact hK _ _ ((h d'.toList hperm hsort).on (hh.write hgr (.inl rfl) hok) (Fr.put (hf.mono fun _ _ hd => Hp.written (o' := hRowK (.slice (some ⟨g, 0, none⟩) xs.length cap) e 2 RV d'.toList) hgr (.inl rfl) hd) (d := dA) trivial))
theorem WL.sortV {x : Operand} {v : Value} {e : TypeId} {xs : List Vx} {ats : Array TypeId} (hx : OpD fr x (dX v)) (_hne : 0 < xs.length) (hlen : xs.length < 4611686018427387904)
    (h : ∀ ys : List Vx, ys.Perm xs → ys.Pairwise (fun a b => ¬ cmpV b a < 0) → WL Tryz.prog ops Q rest (setD fr dst dA) (hRowK v e 2 RV ys :: hp)) :
    WL Tryz.prog ops Q ({ dst := dst, op := .call { callee := .value (.func 119), args := #[x, .func 130], argTypes := ats }, type := ty, pos := ps, after := af, guard := none } :: rest) fr (hRowK v e 2 RV xs :: hp) :=
  WL.sortVG Tryz.call130 (fun x y w => M.order_x x y w) hx hlen h
end
end Go.Proofs.YtgppfikidagfpaaGreatDoor
namespace Go.Proofs.YtgppfikidagfpaaGreatDoor
open Go.RowKit
set_option maxHeartbeats 2000000
set_option linter.unusedSimpArgs false

theorem chk_lenG {s : List Vx} (h : chkV s = 0) : 1 ≤ s.length ∧ s.length ≤ 8 := by have := chkV_zero.1 h; omega
end Go.Proofs.YtgppfikidagfpaaGreatDoor
namespace Go.Proofs.YtgppfikidagfpaaGreatDoor
open Go.RowKit
set_option maxHeartbeats 2000000
set_option linter.unusedSimpArgs false

theorem clone_o (b cap : Nat) (xs : List Vx) (hl : xs.length ≤ 1000) : CallC Tryz.prog 122 ([dX (rowV b cap xs)] ++ ([] : List Value).map dX) [hV b xs.length cap 52 xs] fun d' hp2 => ∃ v, d' = dX v ∧ hp2 = [hRowK v 52 2 RV xs, hV b xs.length cap 52 xs] := by
  (refine CallC.intro Tryz.func122 rfl rfl (fun hp => ?_); simp only [Tryz.ntmps122, List.length_cons, List.length_nil, List.length_append, List.length_map, Nat.reduceAdd, Nat.reduceSub, List.replicate_succ, List.replicate_zero, List.cons_append, List.nil_append, List.map_cons, List.map_nil, List.append_assoc])
  ((repeat' (first | (apply WL.opN; exact yF; dsimp only [setD, z0, z1]) | refine WL.nil ?_ | refine WC.seqK fun Kx hK => ?_ | (refine hK _ _ ?_; clear hK) | refine WC.region ?_ |  (apply WL.build0K elV RV (by decide); (intro _; dsimp only [setD, z0, z1]); all_goals (try infer_instance)) |  (apply WL.appKO elV; exact OpD.t rfl; exact OpD.t rfl; decide; (simp; omega); (intro _; dsimp only [setD, z0, z1])) | (apply WL.opN; (focus ((first | (apply SY.eqNilO; exact OpD.t rfl; exact eqNilV) | fail); all_goals infer_instance)); dsimp only [setD, z0, z1]) | (apply WC.condF; (exact oD); (with_reducible rfl)) | refine WC.skip ?_ | refine WC.ret ?_)); all_goals (first | ((repeat clear hK); (repeat clear Kx))))
  exact ⟨trivial, _, [_, _], rfl, rfl, _, rfl, by rw [List.nil_append]⟩

theorem tyFn : TyI Tryz.prog 198 1 false := ⟨by kernel_rfl, Tryz.isAgg198⟩
theorem tyFy : TyI Tryz.prog 24 1 false := ⟨by kernel_rfl, Tryz.isAgg24⟩
theorem tzFn : TyZ Tryz.prog 198 .nilFunc := ⟨by kernel_rfl⟩
abbrev fromF (v2 v3 v4 : Value) (bf : Nat) : Value := .func (.func 166) #[] [v2, v3, v4, .pointer (some ⟨bf, 0, none⟩)].toArray
abbrev fromO (k : Nat) (s : List Vx) (l b cap bf : Nat) (v2 v3 v4 : Value) (pre : List Vx) : List HObj :=
  [hV b pre.length cap 52 pre, hCell bf 198 1 false (dX (fromF v2 v3 v4 bf)), hKnow v2 (dP 1 false (dI k)), hKnow v3 (dP 1 false (dX (.func (.yield l) #[] #[]))), hKnow v4 (dP 1 false (dS Verts s))]
theorem perm5 {a b c d e : HObj} {js hp : List HObj} : (a :: b :: c :: d :: e :: (js ++ hp)).Perm (js ++ a :: b :: c :: d :: e :: hp) := by
  have : (([a, b, c, d, e] ++ js) ++ hp).Perm ((js ++ [a, b, c, d, e]) ++ hp) := List.Perm.append_right _ List.perm_append_comm
  simpa using this
set_option maxRecDepth 100000 in
set_option maxHeartbeats 8000000 in
theorem from_c (k : Nat) (s : List Vx) (hs : s.length ≤ 100) (hk : k ≤ 100) (l N b cap : Nat) (hcap : k ≤ cap) (J : List (List Vx) → List HObj → Prop) (hY : YStep Tryz.prog l (fun x => dS Verts x) J N) (v2 v3 v4 : Value) (bf : Nat) :
    ∀ (m i0 : Nat) (pre : List Vx) (done : List (List Vx)) (js : List HObj), s.length - i0 = m → i0 ≤ s.length → pre.length ≤ k → J done js → done.length + (subsV (k - pre.length) (s.drop i0)).length ≤ N →
    CallC Tryz.prog 166 ([dI (i0 : Int), dX (rowV b cap pre)] ++ [v2, v3, v4, .pointer (some ⟨bf, 0, none⟩)].map dX) (fromO k s l b cap bf v2 v3 v4 pre ++ js)
      (fun d hp2 => d = dB true ∧ ∃ js', J (done ++ (subsV (k - pre.length) (s.drop i0)).map (pre ++ ·)) js' ∧ hp2 = fromO k s l b cap bf v2 v3 v4 pre ++ js') := by
  intro m
  induction m using Nat.strongRecOn with
  | _ m ih =>
  intro i0 pre done js hm hi0 hpk hj hN
  (refine CallC.intro Tryz.func166 rfl rfl (fun hp => ?_); simp only [Tryz.ntmps166, List.length_cons, List.length_nil, List.length_append, List.length_map, Nat.reduceAdd, Nat.reduceSub, List.replicate_succ, List.replicate_zero, List.cons_append, List.nil_append, List.map_cons, List.map_nil, List.append_assoc])
  refine WC.use 2 rfl (.tail _ (.tail _ (.head _))) ?_
  refine WC.use 3 rfl (.tail _ (.tail _ (.tail _ (.head _)))) ?_
  refine WC.use 4 rfl (.tail _ (.tail _ (.tail _ (.tail _ (.head _))))) ?_
  dsimp only [z0, z1]
  (repeat' (first |  (refine I.WC.drawW (β := Value) 2 (fun v => hRowK v 52 2 RV pre :: hV b pre.length cap 52 pre :: hCell bf 198 1 false (dX (fromF v2 v3 v4 bf)) :: hKnow v2 (dP 1 false (dI k)) :: hKnow v3 (dP 1 false (dX (.func (.yield l) #[] #[]))) :: hKnow v4 (dP 1 false (dS Verts s)) :: (js ++ hp)) (fun v => dX v) _ rfl (by kernel_rfl) (by kernel_rfl) ?_; simp only [List.take_succ_cons, List.take_zero, List.drop_succ_cons, List.drop_zero]) | ((first | apply WL.opN | apply WD.opN); exact yF; dsimp only [setD, z0, z1]) | refine WL.nil ?_ | refine WC.seqK fun Kx hK => ?_ | (refine hK _ _ ?_; clear hK) | refine WC.region ?_ | ((first | apply WL.opN | apply WD.opN); (focus ((first | exact yEql | exact yLen | fail); all_goals infer_instance)); dsimp only [setD, z0, z1]) | (apply WC.condD; (exact oD); all_goals (intro h; try exact xD)) | refine WC.skip ?_ | refine WC.block ?_))
  · have hpk' : pre.length = k := by omega
    have h0 : k - pre.length = 0 := by omega
    rw [h0] at hN ⊢
    have hsub : subsV 0 (s.drop i0) = [[]] := by unfold subsV; rfl
    rw [hsub] at hN ⊢
    (repeat' (first | refine WDs.nil ?_ | (apply WDs.op; (focus (intro c; apply SYG.yes; (exact want_none rfl); ((first | (apply SY.load; exact tyFy; exact OpD.t rfl) | exact yMove | fail); all_goals infer_instance))); dsimp only [setD, z0, z1])))
    refine ⟨SW.callC (hp1 := [_]) (H := fun v => [hRowK v 52 2 RV pre, hV b pre.length cap 52 pre]) (caps := []) (clone_o b cap pre (by omega)) Tryz.call122 OpD.f (by (exact aD)) (fun d hp2 ⟨v, h1, h2⟩ => ⟨v, h1, h2⟩), fun v => ?_⟩
    dsimp only [setD, z0, z1]
    refine I.WL.keepK (s := 16) rfl ?_
    dsimp only [setD, z0, z1]
    refine I.WL.perm perm5 (I.WL.yield (pre := done) (y := pre) hY (by simp at hN; omega) hj (OpD.t rfl) (OpD.t rfl) fun js' hj' => I.WL.perm perm5.symm ?_)
    dsimp only [setD, z0, z1]
    refine I.WL.op rfl (SY.assign (OpD.t rfl)) ?_
    dsimp only [setD, z0, z1]
    refine I.WL.nil ?_
    ((repeat' (first | (refine hK _ _ ?_; clear hK) | refine WC.ret ?_ | refine ThenD.r ?_)); all_goals (first | ((repeat clear hK); (repeat clear Kx))))
    exact ⟨trivial, _, _ :: _ :: _ :: _ :: _ :: js', rfl, rfl, rfl, js', by rw [h0, hsub]; simpa using hj', rfl⟩
  · have hlt : pre.length < k := by omega
    obtain ⟨m1, hm1⟩ : ∃ m1, k - pre.length = m1 + 1 := ⟨k - pre.length - 1, by omega⟩
    rw [hm1] at hN ⊢
    (refine WC.loopU (X := Nat × List (List Vx) × List HObj) (fun x => [(9, dI (x.1 : Int)), (8, dA), (19, dA), (20, dA), (21, dA), (22, dA), (23, dA), (24, dA), (25, dA), (26, dA), (27, dA), (28, dA), (29, dA), (30, dA), (31, dA), (32, dA), (33, dA), (34, dA), (35, dA), (36, dA)]) (fun x => (hV b pre.length cap 52 pre :: hCell bf 198 1 false (dX (fromF v2 v3 v4 bf)) :: hKnow v2 (dP 1 false (dI k)) :: hKnow v3 (dP 1 false (dX (.func (.yield l) #[] #[]))) :: hKnow v4 (dP 1 false (dS Verts s)) :: (x.2.2 ++ hp))) (fun x => s.length - x.1) (fun x => i0 ≤ x.1 ∧ x.1 ≤ s.length ∧ J x.2.1 x.2.2 ∧ x.2.1 ++ (subsV (m1 + 1) (s.drop x.1)).map (pre ++ ·) = done ++ (subsV (m1 + 1) (s.drop i0)).map (pre ++ ·)) (i0, done, js) ?start ?frame0 ?objs0 ?round)
    case start => exact ⟨Nat.le_refl _, hi0, hj, rfl⟩
    case frame0 => ((try dsimp only [upds, z0, z1]); repeat (first | exact LeF.nil | refine LeF.co (k := ?_)))
    case objs0 => rfl
    case round =>
      rintro ⟨i, dn, js1⟩ ⟨q1, q2, q3, q4⟩
      simp only at q1 q2 q3 q4
      dsimp only [upds, z0, z1]
      ((repeat' (first |  (refine WC.drawW (β := Unit) 9 (fun _ => hV b (pre ++ [s[i]'(by omega)]).length cap 52 (pre ++ [s[i]'(by omega)]) :: hCell bf 198 1 false (dX (fromF v2 v3 v4 bf)) :: hKnow v2 (dP 1 false (dI k)) :: hKnow v3 (dP 1 false (dX (.func (.yield l) #[] #[]))) :: hKnow v4 (dP 1 false (dS Verts s)) :: (js1 ++ hp)) (fun _ => dX (rowV b cap (pre ++ [s[i]'(by omega)]))) _ rfl (by kernel_rfl) (by kernel_rfl) ?_; simp only [List.take_succ_cons, List.take_zero, List.drop_succ_cons, List.drop_zero]) | ((first | apply WL.opN | apply WD.opN); exact yF; dsimp only [setD, z0, z1]) | refine WL.nil ?_ | refine WC.seqK fun Kx hK => ?_ | (refine hK _ _ ?_; clear hK) | (refine Kont.skip ?_; clear hK) | refine WC.region ?_ | ((first | apply WL.opN | apply WD.opN); (focus ((first | exact yLss | exact yLen | fail); all_goals infer_instance)); dsimp only [setD, z0, z1]) | (apply WC.condD; (exact oD); all_goals (intro h; try exact xD)) | refine WC.skip ?_ | refine WC.ret ?_ | refine WC.exit ?_ | refine WC.block ?_)); all_goals (first | refine WDs.id ?_ | ((repeat clear hK); (repeat clear Kx))))
      · have hi : i < s.length := by omega
        (repeat' (first | refine WDs.nil ?_ | (apply WDs.op; (focus (intro c; apply SYG.yes; (exact want_none rfl); ((first | (apply SY.loadH; exact tyFn; exact OpD.t rfl; (refine HH.mem ?_ (fun _ => ?_) <;> exact .tail _ (.head _))) | (refine SY.ixK (R := RV) (_gR := inferInstance) (k := i) elV ?_ ?_ hi; exact OpD.t rfl; exact OpD.t rfl) | exact yMove | exact yAdd | exact yLoad | exact yBuildslice | fail); all_goals infer_instance))); dsimp only [setD, z0, z1])))
        refine ⟨SW.pushO' elV (OpD.t rfl) (OpD.t rfl) (by omega), fun _ => ?_⟩
        dsimp only [setD, z0, z1]
        have hd := subsV_drop m1 s i hi
        have hlen := congrArg List.length q4
        simp only [hd, List.length_append, List.length_map] at hlen
        have hk1 : k - (pre ++ [s[i]]).length = m1 := by simp; omega
        have hC := ih (s.length - (i + 1)) (by omega) (i + 1) (pre ++ [s[i]]) dn js1 rfl (by omega) (by simp; omega) q3 (by rw [hk1]; omega)
        rw [hk1] at hC
        refine WL.callC (hp1 := fromO k s l b cap bf v2 v3 v4 (pre ++ [s[i]]) ++ js1) hC Tryz.call166 (OpD.t rfl) (by (exact aD)) ?_
        rintro d' hp2 ⟨rfl, js2, hj2, rfl⟩
        dsimp only [setD, z0, z1, List.cons_append, List.nil_append]
        refine WL.cutO (k := pre.length) (by simp) ?_
        rw [List.take_left' rfl]
        ((repeat' (first | ((first | apply WL.opN | apply WD.opN); exact yF; dsimp only [setD, z0, z1]) | refine WL.nil ?_ | (refine hK _ _ ?_; clear hK) | refine WC.region ?_ | ((first | apply WL.opN | apply WD.opN); (focus ((first | exact yNot | exact yAdd | fail); all_goals infer_instance)); dsimp only [setD, z0, z1]) | (apply WC.condNB; (exact oD); all_goals (intro h; try exact xD)) | refine WC.skip ?_ | refine ThenD.n ?_)); all_goals (first | ((repeat clear hK); (repeat clear Kx))))
        (refine ⟨(i + 1, dn ++ List.map (fun x => pre ++ [s[i]] ++ x) (subsV m1 (List.drop (i + 1) s)), js2), ?_, by first | omega | (simp only; omega), rfl, ?_⟩; rotate_left; ((try dsimp only [upds, z0, z1]); repeat (first | exact LeF.nil | refine LeF.co (k := ?_))); (try dsimp only))
        refine ⟨by omega, by omega, hj2, ?_⟩
        rw [← q4, hd, List.map_append, List.map_map, List.append_assoc]
        congr 2
        apply List.map_congr_left
        intro x _
        simp
      · have hi : s.length ≤ i := by omega
        have hd : subsV (m1 + 1) (List.drop i s) = [] := by rw [List.drop_eq_nil_of_le hi]; rfl
        rw [hd] at q4
        simp only [List.map_nil, List.append_nil] at q4
        exact ⟨trivial, _, _ :: _ :: _ :: _ :: _ :: js1, rfl, rfl, rfl, js1, by rw [hm1, ← q4]; exact q3, rfl⟩
theorem perm2 {a b : HObj} {js hp : List HObj} : (js ++ a :: b :: hp).Perm (a :: b :: (js ++ hp)) := perm_mid2.symm
set_option maxRecDepth 100000 in
set_option maxHeartbeats 8000000 in
theorem seq_c (k : Nat) (s : List Vx) (hs : s.length ≤ 100) (hk : k ≤ 100) (vk vs : Value) : SeqC Tryz.prog 165 [vk, vs] [hKnow vk (dP 1 false (dI k)), hKnow vs (dP 1 false (dS Verts s))] (fun x => dS Verts x) (subsV k s) := ⟨fun l J hY js hj => by
  (refine CallC.intro0 Tryz.func165 rfl rfl (fun hp => ?_); simp only [Tryz.ntmps165, List.length_cons, List.length_nil, List.length_append, List.length_map, Nat.reduceAdd, Nat.reduceSub, List.replicate_succ, List.replicate_zero, List.cons_append, List.nil_append, List.map_cons, List.map_nil, List.append_assoc])
  refine WC.perm' perm2 ?_
  (repeat' (first |  (refine WC.pin (d := dP 1 false (dX (.func (.yield l) #[] #[]))) 3 rfl fun v3 => ?_; dsimp only [z0, z1]) |  (refine WC.use (d := dP 1 false (dI k)) 1 rfl (.tail _ (.tail _ (.head _))) ?_; dsimp only [z0, z1]; refine WC.drawW (β := Nat) 2 (fun b => hV b 0 k 52 [] :: hCell bf 198 1 false (dX (fromF vk v3 vs bf)) :: hKnow v3 (dP 1 false (dX (.func (.yield l) #[] #[]))) :: hKnow vk (dP 1 false (dI k)) :: hKnow vs (dP 1 false (dS Verts s)) :: (js ++ hp)) (fun b => dX (.slice (some ⟨b, 0, none⟩) 0 k)) _ rfl (by kernel_rfl) (by kernel_rfl) ?_; simp only [List.take_succ_cons, List.take_zero, List.drop_succ_cons, List.drop_zero]) | refine WL.nil ?_ | refine WC.seqK fun Kx hK => ?_ | (refine hK _ _ ?_; clear hK) | refine WC.region ?_ |  (apply WL.alloc tzFn; exact shape_X rfl; (intro bf; dsimp only [setD, z0, z1])) |  (apply WL.storeK tyFn; exact OpD.t rfl; exact OpD.t rfl; exact shape_X rfl; dsimp only [setD, z0, z1]) | ((first | apply WL.opN | apply WD.opN); (focus ((first | (apply SY.makeX; repeat (first | exact ArgsX.nil | (apply ArgsX.cons; exact OpD.t rfl))) | exact yBox | fail); all_goals infer_instance)); dsimp only [setD, z0, z1])))
  (repeat' (first | refine WDs.nil ?_ | (apply WDs.op; (focus (intro c; apply SYG.yes; (exact want_none rfl); ((first | (apply SY.loadH; exact tyFn; exact OpD.t rfl; (refine HH.mem ?_ (fun _ => ?_) <;> first | exact .head _ | exact .tail _ (.head _))) | exact yLoad | fail); all_goals infer_instance))); dsimp only [setD, z0, z1])))
  refine ⟨SW.makeO elV (OpD.t rfl) rfl (by omega) (by simp only [maxLen]; omega), fun b => ?_⟩
  dsimp only [setD, z0, z1]
  have hC := from_c k s hs hk l (subsV k s).length b k (Nat.le_refl _) J hY vk v3 vs bf s.length 0 [] [] js rfl (Nat.zero_le _) (Nat.zero_le _) hj (by simp)
  refine WL.perm (((List.Perm.swap _ _ _).cons _).cons _) ?_
  refine WL.callC (hp1 := fromO k s l b k bf vk v3 vs [] ++ js) hC Tryz.call166 (OpD.t rfl) (by (exact aD)) ?_
  rintro d' hp2 ⟨rfl, js', hj', rfl⟩
  simp only [List.length_nil, Nat.sub_zero, List.drop_zero, List.nil_append, List.map_id'] at hj'
  dsimp only [setD, z0, z1, List.cons_append, List.nil_append]
  refine WL.drop (WL.drop (WL.perm (List.Perm.swap _ _ _) (WL.drop (WL.perm perm_mid2 (WL.nil ?_)))))
  exact ⟨trivial, js' ++ [_, _], by simp, js', hj', rfl⟩⟩
theorem faces_k (k : Nat) (s : List Vx) : CallC Tryz.prog 150 ([dS Verts s, dI k] ++ ([] : List Value).map dX) [] (fun d hp2 => ∃ vk vs, d = dX (.func (.func 165) #[] [vk, vs].toArray) ∧ hp2 = [hKnow vk (dP 1 false (dI k)), hKnow vs (dP 1 false (dS Verts s))]) := by
  (refine CallC.intro Tryz.func150 rfl rfl (fun hp => ?_); simp only [Tryz.ntmps150, List.length_cons, List.length_nil, List.length_append, List.length_map, Nat.reduceAdd, Nat.reduceSub, List.replicate_succ, List.replicate_zero, List.cons_append, List.nil_append, List.map_cons, List.map_nil, List.append_assoc])
  ((repeat' (first |  (refine WC.pin (d := dP 1 false (dS Verts s)) 2 rfl fun vs => ?_; dsimp only [z0, z1]; refine WC.pin (d := dP 1 false (dI k)) 3 rfl fun vk => ?_; dsimp only [z0, z1]) | (apply WL.opN; exact yF; dsimp only [setD, z0, z1]) | refine WL.nil ?_ | refine WC.seqK fun Kx hK => ?_ | (refine hK _ _ ?_; clear hK) | refine WC.region ?_ | (apply WL.opN; (focus ((first | (apply SY.makeX; repeat (first | exact ArgsX.nil | (apply ArgsX.cons; exact OpD.t rfl))) | exact yBox | fail); all_goals infer_instance)); dsimp only [setD, z0, z1]) | refine WC.ret ?_)); all_goals (first | ((repeat clear hK); (repeat clear Kx))))
  exact ⟨trivial, _, [_, _], rfl, rfl, vk, vs, rfl, rfl⟩

end Go.Proofs.YtgppfikidagfpaaGreatDoor
