/-
  Part 11 of the texts that the claims of this seat lean on: walks of the program's functions by contracts over symbolic frames, and plain laws of what they compute. No condition.
-/
import Derived.Ground.Names8Prog
import Derived.Ground.NamesProg
import Derived.Ground.SlsfProg
import Derived.Shelf.SlSortCmp.NoneTotal
import Derived.Shelf.SlSortCmp.WholeK
import Derived.Shelf.Spec.SlicesGrow
import Derived.Sort.Grow
import Derived.Test.YtjbepoofigokjaaGreatProg
import Derived.Test.YtjbepoofigokjaaGreatVf6
import Derived.Test.YtjbepoofigokjaaGreatVf7
import Derived.Test.YtjbepoofigokjaaGreatVf8
import Derived.Test.YtjbepoofigokjaaGreatVf9
import Derived.Test.YtjbepoofigokjaaGreatVf10
set_option linter.unusedVariables false
set_option linter.unusedSimpArgs false
set_option linter.unusedSectionVars false
namespace Go.Proofs.YtjbepoofigokjaaGreat.M
open Go.RowKit

theorem nan_p (x : Int) : Fn Tryz.prog 149 [dI x] (dB false) := by
  (refine Fn.intro1 Tryz.func149 rfl rfl ?_; simp only [Tryz.ntmps149, List.length_cons, List.length_nil, Nat.reduceAdd, Nat.reduceSub, List.replicate_succ, List.replicate_zero, List.cons_append, List.nil_append])
  ((repeat' (first | (apply WL.opG; (focus (apply SYG.yes; (exact want_none rfl); (first | (apply SY.move <;> (exact oD)) | (apply SY.assign <;> (exact oD))))); dsimp only [setD, z0, z1]) | refine WL.nil ?_ | refine WC.seqK fun Kx hK => ?_ | (refine hK _ _ ?_; clear hK) | refine WC.region ?_ | (apply WL.opG; (focus (apply SYG.yes; (exact want_none rfl); ((first | ((first | apply SY.move | apply SY.assign | apply SY.neq) <;> (exact oD)) | fail); all_goals infer_instance))); dsimp only [setD, z0, z1]) | refine WC.ret ?_)); all_goals (first | ((repeat clear hK); (repeat clear Kx))))
  all_goals ((refine ⟨trivial, _, rfl, ?_⟩; refine FinD.b ?_); simp)
theorem cmpI_p (x y : Int) : Fn Tryz.prog 124 [dI x, dI y] (dI (cmpI x y)) := by
  (refine Fn.intro1 Tryz.func124 rfl rfl ?_; simp only [Tryz.ntmps124, List.length_cons, List.length_nil, Nat.reduceAdd, Nat.reduceSub, List.replicate_succ, List.replicate_zero, List.cons_append, List.nil_append])
  ((repeat' (first | (apply WL.opG; (focus (apply SYG.yes; (exact want_none rfl); (first | (apply SY.move <;> (exact oD)) | (apply SY.assign <;> (exact oD))))); dsimp only [setD, z0, z1]) | refine WL.nil ?_ | refine WC.seqK fun Kx hK => ?_ | (refine hK _ _ ?_; clear hK) | refine WC.region ?_ | (apply WL.opG; (focus (apply SYG.yes; (exact want_none rfl); ((first | (apply SY.call (nan_p _) Tryz.call149; (exact aD)) | ((first | apply SY.move | apply SY.assign | apply SY.lss | apply SY.gtr) <;> (exact oD)) | fail); all_goals infer_instance))); dsimp only [setD, z0, z1]) | (apply WC.condF; (exact oD); (with_reducible rfl)) | (apply WC.condD; (exact oD); (all_goals intro h); (all_goals try (exfalso; first | omega | contradiction))) | refine WC.skip ?_ | refine WC.ret ?_ | refine ThenD.r ?_)); all_goals (first | ((repeat clear hK); (repeat clear Kx))))
  all_goals ((refine ⟨trivial, _, rfl, ?_⟩; refine FinD.i ?_); unfold cmpI; simp [*])
  all_goals omega
theorem orI_p (l : List Int) : Fn Tryz.prog 123 [dS Ints l] (dI (orI l)) := by
  (refine Fn.intro1 Tryz.func123 rfl rfl ?_; simp only [Tryz.ntmps123, List.length_cons, List.length_nil, Nat.reduceAdd, Nat.reduceSub, List.replicate_succ, List.replicate_zero, List.cons_append, List.nil_append])
  (repeat' (first | (apply WL.opG; (focus (apply SYG.yes; (exact want_none rfl); (first | (apply SY.move <;> (exact oD)) | (apply SY.assign <;> (exact oD)) | (apply SY.load; (exact tD); (exact OpD.t rfl))))); dsimp only [setD, z0, z1]) | refine WL.nil ?_ | refine WC.seqK fun Kx hK => ?_ | (refine hK _ _ ?_; clear hK) | refine WC.region ?_ | (apply WL.opG; (focus (apply SYG.yes; (exact want_none rfl); ((first | (apply SY.len; (exact oD); (exact nD); (exact uD)) | fail); all_goals infer_instance))); dsimp only [setD, z0, z1]) | refine WC.block ?_))
  (first | refine WC.know (t := 0) rfl le_K fun hl0 => ?_ | refine WC.know (t := 0) rfl le_A fun hl0 => ?_); simp only [maxLen] at hl0
  (refine WC.loopU (X := Nat) (fun k => [(8, dI (k : Int)), (2, dA), (5, dA), (9, dA), (10, dA), (11, dA), (12, dA), (13, dA), (14, dA), (15, dA), (16, dA)]) (fun k => []) (fun k => l.length - k) (fun k => k ≤ l.length ∧ orI l = orI (l.drop k)) 0 ?start ?frame0 ?objs0 ?round)
  case start => exact ⟨Nat.zero_le _, rfl⟩
  case frame0 => ((try dsimp only [upds, z0, z1]); repeat (first | exact LeF.nil | refine LeF.co (k := ?_)))
  case objs0 => rfl
  case round =>
    rintro k ⟨h1, h2⟩
    dsimp only [upds, z0, z1]
    ((repeat' (first | (apply WL.opG; (focus (apply SYG.yes; (exact want_none rfl); (first | (apply SY.move <;> (exact oD)) | (apply SY.assign <;> (exact oD)) | (apply SY.load; (exact tD); (exact OpD.t rfl))))); dsimp only [setD, z0, z1]) | refine WL.nil ?_ | refine WC.seqK fun Kx hK => ?_ | (refine hK _ _ ?_; clear hK) | (refine Kont.skip ?_; clear hK) | refine WC.region ?_ | (apply WL.opG; (focus (apply SYG.yes; (exact want_none rfl); ((first | ((first | apply SY.move | apply SY.assign | apply SY.lss | apply SY.neq) <;> (exact oD)) | ((first | apply SY.add) <;> first | exact oD | omega) | (apply SY.ix; (exact eD); (exact oD); (exact oD); exact kD) | fail); all_goals infer_instance))); dsimp only [setD, z0, z1]) | (apply WC.condD; (exact oD); (all_goals intro h); (all_goals try (exfalso; first | omega | contradiction))) | (apply WC.condN; (exact oD); (all_goals intro h); (all_goals try (exfalso; first | omega | contradiction))) | refine WC.skip ?_ | refine WC.ret ?_ | refine WC.exit ?_ | refine WC.block ?_ | refine ThenD.n ?_ | refine ThenD.r ?_ | refine InBlockD.r ?_)); all_goals (first | ((repeat clear hK); (repeat clear Kx))))
    · (refine ⟨trivial, _, rfl, ?_⟩; refine FinD.i ?_)
      rw [h2, orI_drop (by omega), if_neg h]
    · (refine ⟨k + 1, ?_, by first | omega | (simp only; omega), rfl, ?_⟩; rotate_left; ((try dsimp only [upds, z0, z1]); repeat (first | exact LeF.nil | refine LeF.co (k := ?_))); (try dsimp only))
      exact ⟨by omega, by rw [h2, orI_drop (by omega), if_pos h]⟩
    · (refine ⟨trivial, _, rfl, ?_⟩; refine FinD.i ?_)
      rw [h2, List.drop_of_length_le (by omega)]; rfl
theorem order_p (x y : Vx) : Fn Tryz.prog 88 [dS RV x, dS RV y] (dI (cmpV x y)) := by
  (refine Fn.intro1 Tryz.func88 rfl rfl ?_; simp only [Tryz.ntmps88, List.length_cons, List.length_nil, Nat.reduceAdd, Nat.reduceSub, List.replicate_succ, List.replicate_zero, List.cons_append, List.nil_append])
  ((repeat' (first | ((first | apply WL.opG | apply WD.op); (focus (apply SYG.yes; (exact want_none rfl); (first | (apply SY.assign <;> (exact oD)) | (apply SY.load; (exact tD); (exact OpD.t rfl))))); dsimp only [setD, z0, z1]) | refine WL.nil ?_ | refine WD.nil ?_ | refine WC.seqK fun Kx hK => ?_ | (refine hK _ _ ?_; clear hK) | refine WC.region ?_ | (apply WC.draw; kernel_rfl; kernel_rfl) | ((first | apply WL.opG | apply WD.op); (focus (apply SYG.yes; (exact want_none rfl); ((first | (apply SY.call (cmpI_p _ _) Tryz.call124; (exact aD)) | (apply SY.call (orI_p [_, _]) Tryz.call123; (exact aD)) | (first | (apply SY.fld0 vxT <;> (exact oD)) | (apply SY.fld1 vxT <;> (exact oD))) | (apply SY.build1'; (exact eD); ((try simp only [List.map_cons, List.map_nil]); (repeat (first | exact ElsD.nl | (apply ElsD.cn; (first | exact OpD.t rfl | exact OpD.i | exact OpD.b | exact OpD.tle rfl (by first | exact Dat.le_nil | exact Dat.le_nilK (by decide)) | exact ⟨Dat.le_nil⟩ | exact ⟨Dat.le_nilK (by decide)⟩))))); rfl; rfl; (intro _; first | exact shape_K | exact shape_I | exact shape_A | exact shape_B); (exact (by simp))) | (apply SY.box; (exact oD); (exact hD)) | fail); all_goals infer_instance))); dsimp only [setD, z0, z1]) | refine WC.ret ?_)); all_goals (first | ((repeat clear hK); (repeat clear Kx))))
  all_goals ((refine ⟨trivial, _, rfl, ?_⟩; refine FinD.i ?_); exact cmpV_or _ _)
theorem Ext.grow {w w' : World} (h : Ext w w') : ∃ q os', w' = Go.Sort.grow (w.drewN q) os' := by
  refine ⟨w'.drawn - w.drawn, w'.heap.extract w.heap.size w'.heap.size, ?_⟩
  have hd := h.d
  have hs := h.b.size
  have hh : w'.heap = w.heap ++ w'.heap.extract w.heap.size w'.heap.size := by
    apply Array.ext
    · simp; omega
    · intro i h1 h2
      by_cases hi : i < w.heap.size
      · have := h.b.block i hi
        rw [Array.getElem?_eq_getElem h1, Array.getElem?_eq_getElem hi] at this
        rw [Array.getElem_append_left hi]
        exact Option.some.inj this
      · rw [Array.getElem_append_right (by omega), Array.getElem_extract]
        congr 1
        omega
  unfold Go.Sort.grow World.drewN
  cases w'
  cases w
  simp only at hd hh
  have h1 := h.b.os; have h2 := h.b.tape; have h3 := h.b.output
  simp only at h1 h2 h3
  subst h1; subst h2; subst h3
  simp only [World.mk.injEq, true_and, and_true]
  exact ⟨hh, by omega⟩
theorem order_x (x y : Vx) (w : World) : Calls Tryz.prog 88 #[.agg #[.int .i64 x.1, .int .i64 x.2], .agg #[.int .i64 y.1, .int .i64 y.2]] w fun e w' => e = .returned (.int .i64 (cmpV x y)) ∧ ∃ q os', w' = Go.Sort.grow (w.drewN q) os' := by
  have := (order_p x y).out (fun _ => True) w [.agg #[.int .i64 x.1, .int .i64 x.2], .agg #[.int .i64 y.1, .int .i64 y.2]] rfl (fun i d hd => by
    match i with
    | 0 => cases hd; rfl
    | 1 => cases hd; rfl
    | i + 2 => simp at hd)
  exact this.mono fun e w' ⟨v, h1, h2, h3⟩ => ⟨by rw [h1]; exact congrArg _ h3, h2.grow⟩

end Go.Proofs.YtjbepoofigokjaaGreat.M
namespace Go.Proofs
open Go.Shelf
def Tryz.sortV_ren : Go.Shelf.Ren := ⟨fun | 6 => 112 | 15 => 121 | 14 => 136 | 28 => 147 | 29 => 148 | 20 => 160 | 21 => 161 | 22 => 162 | 23 => 163 | 24 => 164 | 25 => 165 | 26 => 166 | 27 => 167 | 46 => 179 | 47 => 172 | 48 => 173 | 49 => 180 | 50 => 181 | 57 => 184 | n => n, fun | 22 => 34 | 24 => 63 | 25 => 124 | 3 => 3 | 39 => 155 | 0 => 0 | 53 => 181 | 55 => 183 | 4 => 4 | 46 => 175 | 45 => 174 | 50 => 110 | 5 => 5 | 9 => 9 | 66 => 197 | 70 => 201 | 76 => 208 | 77 => 95 | n => n, fun | n => n⟩
theorem Tryz.sortV : Go.Proofs.SlLaysF0.n6 Tryz.prog Tryz.sortV_ren := {
  mixed := by kernel_rfl
  f6 := ⟨Tryz.f112.name, by decide, Tryz.func112.trans (congrArg some (by kernel_rfl))⟩
  f14 := ⟨Tryz.f136.name, by decide, Tryz.func136.trans (congrArg some (by kernel_rfl))⟩
  f15 := Tryz.func121.trans (congrArg some (by kernel_rfl))
  f20 := ⟨Tryz.f160.name, by decide, Tryz.func160.trans (congrArg some (by kernel_rfl))⟩
  f21 := ⟨Tryz.f161.name, by decide, Tryz.func161.trans (congrArg some (by kernel_rfl))⟩
  f22 := ⟨Tryz.f162.name, by decide, Tryz.func162.trans (congrArg some (by kernel_rfl))⟩
  f23 := ⟨Tryz.f163.name, by decide, Tryz.func163.trans (congrArg some (by kernel_rfl))⟩
  f24 := ⟨Tryz.f164.name, by decide, Tryz.func164.trans (congrArg some (by kernel_rfl))⟩
  f25 := ⟨Tryz.f165.name, by decide, Tryz.func165.trans (congrArg some (by kernel_rfl))⟩
  f26 := ⟨Tryz.f166.name, by decide, Tryz.func166.trans (congrArg some (by kernel_rfl))⟩
  f27 := ⟨Tryz.f167.name, by decide, Tryz.func167.trans (congrArg some (by kernel_rfl))⟩
  f28 := Tryz.func147.trans (congrArg some (by kernel_rfl))
  f29 := Tryz.func148.trans (congrArg some (by kernel_rfl))
  f46 := ⟨Tryz.f179.name, by decide, Tryz.func179.trans (congrArg some (by kernel_rfl))⟩
  f47 := Tryz.func172.trans (congrArg some (by kernel_rfl))
  f48 := Tryz.func173.trans (congrArg some (by kernel_rfl))
  f49 := ⟨Tryz.f180.name, by decide, Tryz.func180.trans (congrArg some (by kernel_rfl))⟩
  f50 := ⟨Tryz.f181.name, by decide, Tryz.func181.trans (congrArg some (by kernel_rfl))⟩
  f57 := ⟨Tryz.f184.name, by decide, Tryz.func184.trans (congrArg some (by kernel_rfl))⟩
  t0 := Tryz.underlying0
  a0 := Tryz.isAgg0
  z0 := Tryz.sizeOf0
  v0 := Tryz.zeroValue0
  t3 := Tryz.underlying3
  a3 := Tryz.isAgg3
  z3 := Tryz.sizeOf3
  v3 := Tryz.zeroValue3
  t4 := Tryz.underlying4
  a4 := Tryz.isAgg4
  z4 := Tryz.sizeOf4
  v4 := Tryz.zeroValue4
  t5 := Tryz.underlying5
  a5 := Tryz.isAgg5
  z5 := Tryz.sizeOf5
  v5 := Tryz.zeroValue5
  t9 := Tryz.underlying9
  a9 := Tryz.isAgg9
  z9 := Tryz.sizeOf9
  v9 := Tryz.zeroValue9
  t22 := Tryz.underlying34
  a22 := Tryz.isAgg34
  z22 := Tryz.sizeOf34
  v22 := Tryz.zeroValue34
  t25 := Tryz.underlying124
  a25 := Tryz.isAgg124
  z25 := Tryz.sizeOf124
  v25 := Tryz.zeroValue124
  t39 := Tryz.underlying155
  a39 := Tryz.isAgg155
  z39 := Tryz.sizeOf155
  v39 := Tryz.zeroValue155
  t45 := Tryz.underlying174
  a45 := Tryz.isAgg174
  z45 := Tryz.sizeOf174
  v45 := Tryz.zeroValue174
  t46 := Tryz.underlying175
  a46 := Tryz.isAgg175
  z46 := Tryz.sizeOf175
  v46 := Tryz.zeroValue175
  t50 := Tryz.underlying110
  a50 := Tryz.isAgg110
  z50 := Tryz.sizeOf110
  v50 := Tryz.zeroValue110
  t53 := Tryz.underlying181
  a53 := Tryz.isAgg181
  z53 := Tryz.sizeOf181
  v53 := Tryz.zeroValue181
  t55 := Tryz.underlying183
  a55 := Tryz.isAgg183
  z55 := Tryz.sizeOf183
  v55 := Tryz.zeroValue183
  t66 := Tryz.underlying197
  a66 := Tryz.isAgg197
  z66 := Tryz.sizeOf197
  v66 := Tryz.zeroValue197
  t70 := Tryz.underlying201
  a70 := Tryz.isAgg201
  z70 := Tryz.sizeOf201
  v70 := Tryz.zeroValue201
  t76 := Tryz.underlying208
  a76 := Tryz.isAgg208
  z76 := Tryz.sizeOf208
  v76 := Tryz.zeroValue208
  t77 := Tryz.underlying95
  a77 := Tryz.isAgg95
  z77 := Tryz.sizeOf95
  v77 := Tryz.zeroValue95 }
end Go.Proofs
namespace Go.Proofs.YtjbepoofigokjaaGreat
open Go.RowKit Go.Sort Go.Shelf

theorem swoV : SWO (ltOf cmpV) where
  irrefl x := by simp [ltOf, cmpV_eq.2 (rfl : x = x)]
  trans x y z h h' := by
    simp only [ltOf, decide_eq_true_eq] at *
    exact cmpV_trans h h'
  ntrans x y z h h' := by
    simp only [ltOf, decide_eq_false_iff_not] at *
    intro hc
    rcases cmpV_cases x y with k | k | k
    · omega
    · have := cmpV_trans (a := y) (b := x) (c := z) (by omega) hc
      exact h' this
    · exact h' (k.2.2 ▸ hc)
theorem flat_list {d : Array Vx} : (flatK encV 2 d).toList = (d.toList.map encV).flatten := by
  apply List.ext_getElem?
  intro t
  have hl : ∀ u ∈ d.toList.map encV, u.length = 2 := fun u hu => by obtain ⟨x, _, rfl⟩ := List.mem_map.1 hu; rfl
  have hlen : ((d.toList.map encV).flatten).length = d.size * 2 := by
    rw [List.length_flatten]
    have : (List.map List.length (d.toList.map encV)) = List.replicate d.size 2 := by
      rw [List.eq_replicate_iff]
      refine ⟨by simp, fun b hb => ?_⟩
      obtain ⟨u, hu, rfl⟩ := List.mem_map.1 hb
      exact hl u hu
    rw [this]; simp
  by_cases ht : t < d.size * 2
  · have h1 : t / 2 < (d.toList.map encV).length := by simp; omega
    have h2 : t % 2 < 2 := Nat.mod_lt _ (by decide)
    have h3 : ((d.toList.map encV)[t / 2]'h1)[t % 2]? = some ((encV (d[t / 2]'(by omega)))[t % 2]'(by simp [encV]; omega)) := by
      simp
    have h4 := flatten_get hl h1 h3
    have h5 : t / 2 * 2 + t % 2 = t := by omega
    rw [h5] at h4
    rw [h4]
    have h6 := get_flatK encV 2 d t ht
    rw [Array.getElem?_toList]
    have h7 : t < (flatK encV 2 d).size := by simp; omega
    rw [getElem!_pos _ t h7, getElem!_pos d (t / 2) (by omega), getElem!_pos _ (t % 2) (by simp [encV]; omega)] at h6
    rw [Array.getElem?_eq_getElem h7, h6]
  · rw [List.getElem?_eq_none (by simp; omega), List.getElem?_eq_none (by omega)]
section
variable {w : World} {g n cap : Nat} {os : Array Obj} {cur : Array Value} {e : TypeId} {fz : Nat × Nat}
theorem holds_of_row {F : Array Value} (hb : w.heap[g]? = some (.cells cur e (0, 0))) (ht : cur.toList.take F.size = F.toList) : Holds id w g 0 F := by
  intro j hj
  refine ⟨?_, by simp [World.frozen?, hb]⟩
  have h1 : (cur.toList.take F.size)[j]? = F.toList[j]? := by rw [ht]
  rw [List.getElem?_take_of_lt hj] at h1
  simp only [World.cell?, hb, Nat.zero_add]
  simp only [Option.isSome_none, Bool.false_eq_true, if_false]
  rw [← Array.getElem?_toList, h1, getElem!_pos _ j hj]
  simp [hj]
theorem heap_sortedF (F : Array Value) (hb : w.heap[g]? = some (.cells cur e fz)) :
    (grow (putRow id (Sort.ahead w n) g 0 F) os).heap[g]? = some (.cells (putCells id 0 F cur) e fz) := by
  have hg : g < w.heap.size := (Array.getElem?_eq_some_iff.1 hb).1
  rw [heap_grow_old _ _ (by simpa using hg)]
  simp [putRow, mapBlock, Sort.ahead, Array.getElem?_modify, hb, onCells]
theorem grownBy_sortedF (F : Array Value) : w.grownBy (grow (putRow id (Sort.ahead w n) g 0 F) os) (some g) := by
  refine ⟨rfl, rfl, rfl, by simp, fun k hk hne => ?_⟩
  rw [heap_grow_old _ _ (by simpa using hk)]
  have : g ≠ k := fun e => hne (by rw [e])
  simp [putRow, mapBlock, Sort.ahead, Array.getElem?_modify, this]
theorem take_putCellsF (cur F : Array Value) (h : F.size ≤ cur.size) : (putCells id 0 F cur).toList.take F.size = F.toList := by
  apply List.ext_getElem?
  intro j
  by_cases hj : j < F.size
  · rw [List.getElem?_take_of_lt hj, Array.getElem?_toList]
    simp [putCells, hj, show j < cur.size by omega]
  · rw [List.getElem?_take_eq_none (by omega), List.getElem?_eq_none (by simp; omega)]
end
section
variable {ops : Array Oper} {hp : List HObj} {fr : List Dat} {Q : Post} {rest : List Oper} {dst : Option Tmp} {ty : TypeId} {ps : String} {af : Array Edge}
theorem WL.sortVG {cf : FuncId} (hce : Enters Tryz.prog cf) (hcx : ∀ (x y : Vx) (w : World), Calls Tryz.prog cf #[.agg #[.int .i64 x.1, .int .i64 x.2], .agg #[.int .i64 y.1, .int .i64 y.2]] w fun e w' => e = .returned (.int .i64 (cmpV x y)) ∧ ∃ q os', w' = Go.Sort.grow (w.drewN q) os') {x : Operand} {v : Value} {e : TypeId} {xs : List Vx} {ats : Array TypeId} (hx : OpD fr x (dX v)) (hlen : xs.length < 4611686018427387904)
    (h : ∀ ys : List Vx, ys.Perm xs → ys.Pairwise (fun a b => ¬ cmpV b a < 0) → WL Tryz.prog ops Q rest (setD fr dst dA) (hRowK v e 2 RV ys :: hp)) :
    WL Tryz.prog ops Q ({ dst := dst, op := .call { callee := .value (.func 112), args := #[x, .func cf], argTypes := ats }, type := ty, pos := ps, after := af, guard := none } :: rest) fr (hRowK v e 2 RV xs :: hp) := by
  refine WL.of fun P0 B w0 w a hh hf => ?_
  have hok := hh.ok (hRowK v e 2 RV xs) (by simp)
  obtain ⟨us, h1, h2, h0, h3, h4⟩ := hok
  have hus := us_encV h1 h4
  subst hus
  have hev : a.eval x = v := hx.ev hf
  obtain ⟨hfl, hv⟩ := h3
  by_cases hne0 : xs = []
  · subst hne0
    have hv0 : ∃ p cap, v = .slice p 0 cap := by
      rcases hv with ⟨hv, _⟩ | ⟨g, cap, cur, hv, _⟩
      · exact ⟨_, _, hv⟩
      · exact ⟨_, _, hv⟩
    obtain ⟨p, cap, hv0⟩ := hv0
    have hcon := AnyF.slices_SortFunc_none (P := Tryz.prog) (ρ := Tryz.sortV_ren) Tryz.sortV p cap (.func (.func cf) #[] #[]) w
    change Calls Tryz.prog 112 _ _ _ at hcon
    have hrun : (execOp a.eval { dst := dst, op := .call { callee := .value (.func 112), args := #[x, .func cf], argTypes := ats }, type := ty, pos := ps, after := af, guard := none }).run Tryz.prog w = .ok (.enter 112 #[v, .func (.func cf) #[] #[]]) w := by
      unfold execOp
      simp only [resolve]
      have he : (#[x, Operand.func cf] : Array Operand).map a.eval = #[v, .func (.func cf) #[] #[]] := by simp [hev]; rfl
      rw [he]
      simp [Act.eval, Deferred.ofValue, invoke, Tryz.call112]
    refine wpList_plain rfl fun K hK => ?_
    unfold Oper.wp
    rw [hrun, hv0]
    refine hcon.mono fun e' w' ⟨he, hw'⟩ => ?_
    subst he
    subst hw'
    exact hK _ _ ((h [] (List.Perm.refl _) List.Pairwise.nil).on hh (hf.put (d := dA) trivial))
  have hne : 0 < xs.length := List.length_pos_iff.2 hne0
  rcases hv with ⟨_, hz⟩ | ⟨g, cap, cur, hv, hB, hg, hc1, hc2, hc3, hc4⟩
  · omega
  have hgb : g < w.heap.size := (Array.getElem?_eq_some_iff.1 hg).1
  have hF : (flatK encV 2 xs.toArray).toList = (xs.map encV).flatten := by rw [flat_list]
  have hFs : (flatK encV 2 xs.toArray).size = xs.length * 2 := by simp
  have hH : HoldsK encV 2 w g 0 xs.toArray := holds_of_row hg (by rw [hFs, hF]; exact hc4)
  have hcon := AnyQ.slices_SortFunc Tryz.sortV 2 Tryz.isAgg63 Tryz.sizeOf63 encV (fun _ => rfl) (fun x v hv => by simp [encV] at hv; rcases hv with rfl | rfl <;> rfl) cmpV swoV cf #[] g 0 cap xs.toArray w hce
    (fun _ _ _ _ x y => hcx x y _) hH hgb (by simpa using hlen)
  change Calls Tryz.prog 112 _ _ _ at hcon
  subst hv
  have hrun : (execOp a.eval { dst := dst, op := .call { callee := .value (.func 112), args := #[x, .func cf], argTypes := ats }, type := ty, pos := ps, after := af, guard := none }).run Tryz.prog w = .ok (.enter 112 #[.slice (some ⟨g, 0, none⟩) xs.toArray.size cap, .func (.func cf) #[] #[]]) w := by
    unfold execOp
    simp only [resolve]
    have he : (#[x, Operand.func cf] : Array Operand).map a.eval = #[.slice (some ⟨g, 0, none⟩) xs.toArray.size cap, .func (.func cf) #[] #[]] := by simp [hev]; rfl
    rw [he]
    simp [Act.eval, Deferred.ofValue, invoke, Tryz.call112]
  refine wpList_plain rfl fun K hK => ?_
  unfold Oper.wp
  rw [hrun]
  refine hcon.mono fun e' w' ⟨he, d', n, os, hp1, hs, hw'⟩ => ?_
  subst he
  subst hw'
  obtain ⟨q1, _, q3⟩ := hp1
  have hsz : d'.size = xs.length := by simpa using q1
  have hperm : d'.toList.Perm xs := by
    have : xs.toArray.size = d'.size := by simp [hsz]
    rw [this] at q3
    have e1 : d'.extract 0 d'.size = d' := by simp
    have e2 : xs.toArray.extract 0 d'.size = xs.toArray := by rw [hsz]; simp
    rw [e1, e2] at q3
    exact q3
  have hsort : d'.toList.Pairwise (fun a b => ¬ cmpV b a < 0) := by
    rw [List.pairwise_iff_getElem]
    intro i j hi hj hij
    have hi' : i < d'.size := by simpa using hi
    have hj' : j < d'.size := by simpa using hj
    have := hs i j (Nat.zero_le _) hij (by simp; omega)
    rw [getElem!_pos d' i hi', getElem!_pos d' j hj'] at this
    simpa [ltOf] using this
  have hF' : (flatK encV 2 d').toList = (d'.toList.map encV).flatten := flat_list
  have hFs' : (flatK encV 2 d').size = d'.toList.length * 2 := by simp
  have hgr : w.grownBy (sortWorldK encV 2 w g 0 n d' os) (hRowK (.slice (some ⟨g, 0, none⟩) xs.length cap) e 2 RV xs).blk := grownBy_sortedF _
  have hlen' : d'.toList.length = xs.length := by simpa using hsz
  have hok : (hRowK (.slice (some ⟨g, 0, none⟩) xs.length cap) e 2 RV d'.toList).ok (fun k => Imm P0 B (hRowK (.slice (some ⟨g, 0, none⟩) xs.length cap) e 2 RV xs :: hp) k ∧ k < w.heap.size) (sortWorldK encV 2 w g 0 n d' os) := by
    refine ⟨d'.toList.map encV, by simp, fun u hu => ?_, by decide, ⟨?_, .inr ⟨g, cap, putCells _root_.id 0 (flatK encV 2 d') cur, ?_, hB, heap_sortedF _ hg, by omega, hc2, by simp [putCells, hc3], ?_⟩⟩, fun k h h' => ?_⟩
    · obtain ⟨y, _, rfl⟩ := List.mem_map.1 hu
      exact ⟨rfl, by simp [encV, Value.oneCell']⟩
    · rw [← hF', Array.length_toList, hFs']
    · rw [hlen']
    · rw [← hFs', ← hF']
      exact take_putCellsF _ _ (by rw [hFs', hlen', hc3]; exact Nat.mul_le_mul_right _ hc1)
    · show Value.agg _ = _
      rw [List.getElem_map]
      rfl
  exact hK _ _ ((h d'.toList hperm hsort).on (hh.write hgr (.inl rfl) hok) (Fr.put (hf.mono fun _ _ hd => Hp.written (o' := hRowK (.slice (some ⟨g, 0, none⟩) xs.length cap) e 2 RV d'.toList) hgr (.inl rfl) hd) (d := dA) trivial))
theorem WL.sortV {x : Operand} {v : Value} {e : TypeId} {xs : List Vx} {ats : Array TypeId} (hx : OpD fr x (dX v)) (_hne : 0 < xs.length) (hlen : xs.length < 4611686018427387904)
    (h : ∀ ys : List Vx, ys.Perm xs → ys.Pairwise (fun a b => ¬ cmpV b a < 0) → WL Tryz.prog ops Q rest (setD fr dst dA) (hRowK v e 2 RV ys :: hp)) :
    WL Tryz.prog ops Q ({ dst := dst, op := .call { callee := .value (.func 112), args := #[x, .func 88], argTypes := ats }, type := ty, pos := ps, after := af, guard := none } :: rest) fr (hRowK v e 2 RV xs :: hp) :=
  WL.sortVG Tryz.call88 (fun x y w => M.order_x x y w) hx hlen h
end
end Go.Proofs.YtjbepoofigokjaaGreat
namespace Go.Proofs
open Go.Shelf
def Tryz.growV_ren : Go.Shelf.Ren := ⟨fun | 4 => 135 | n => n, fun | 22 => 34 | 25 => 63 | 3 => 3 | 4 => 4 | 9 => 9 | 20 => 20 | 0 => 0 | 2 => 3 | n => n, fun | n => n⟩
theorem Tryz.growV : Go.Proofs.Lays8.n4 Tryz.prog Tryz.growV_ren := {
  mixed := by kernel_rfl
  f4 := ⟨Tryz.f135.name, by decide, Tryz.func135.trans (congrArg some (by kernel_rfl))⟩
  t0 := Tryz.underlying0
  a0 := Tryz.isAgg0
  z0 := Tryz.sizeOf0
  v0 := Tryz.zeroValue0
  t3 := Tryz.underlying3
  a3 := Tryz.isAgg3
  z3 := Tryz.sizeOf3
  v3 := Tryz.zeroValue3
  t4 := Tryz.underlying4
  a4 := Tryz.isAgg4
  z4 := Tryz.sizeOf4
  v4 := Tryz.zeroValue4
  t9 := Tryz.underlying9
  a9 := Tryz.isAgg9
  z9 := Tryz.sizeOf9
  v9 := Tryz.zeroValue9
  t20 := Tryz.underlying20
  a20 := Tryz.isAgg20
  z20 := Tryz.sizeOf20
  v20 := Tryz.zeroValue20
  t22 := Tryz.underlying34
  a22 := Tryz.isAgg34
  z22 := Tryz.sizeOf34
  v22 := Tryz.zeroValue34 }
end Go.Proofs
namespace Go.Proofs.YtjbepoofigokjaaGreat
open Go.RowKit
set_option maxHeartbeats 2000000
set_option linter.unusedSimpArgs false

section
variable {ops : Array Oper} {hp : List HObj} {fr : List Dat} {Q : Post} {rest : List Oper} {dst : Option Tmp} {ty : TypeId} {ps : String} {af : Array Edge}
theorem WL.growV {x : Operand} {n : Nat} {ats : Array TypeId} (hx : OpD fr x (dI (n : Int))) (h0 : 0 < n) (hn : n ≤ 1000)
    (h : ∀ v : Value, WL Tryz.prog ops Q rest (setD fr dst (dX v)) (hRowK v 63 2 RV ([] : List Vx) :: hp)) :
    WL Tryz.prog ops Q ({ dst := dst, op := .call { callee := .value (.func 135), args := #[.const (.slice none 0 0), x], argTypes := ats }, type := ty, pos := ps, after := af, guard := none } :: rest) fr hp := by
  refine WL.of fun P0 B w0 w a hh hf => ?_
  obtain ⟨i, hi', hz, hs, hb⟩ := info_parts elV.info
  have hcon := Any8.slices_Grow_grow Tryz.growV i _ hi' hz (by omega) none 0 0 n [] w (Nat.le_refl _) (by omega) (by rw [hb]; omega) (by omega) (by simp) (fun _ => rfl) (by simp)
  change Calls Tryz.prog 135 _ _ _ at hcon
  have hev : a.eval x = .int .i64 (n : Int) := hx.ev hf
  have hrun : (execOp a.eval { dst := dst, op := .call { callee := .value (.func 135), args := #[.const (.slice none 0 0), x], argTypes := ats }, type := ty, pos := ps, after := af, guard := none }).run Tryz.prog w = .ok (.enter 135 #[.slice none 0 0, .int .i64 n]) w := by
    unfold execOp
    simp only [resolve]
    have he : (#[Operand.const (.slice none 0 0), x] : Array Operand).map a.eval = #[.slice none 0 0, .int .i64 n] := by simp [hev]; rfl
    rw [he]
    simp [Act.eval, Deferred.ofValue, invoke, Tryz.call135]
  refine wpList_plain rfl fun K hK => ?_
  unfold Oper.wp
  rw [hrun]
  refine hcon.mono fun e' w' ⟨he, hw'⟩ => ?_
  subst he
  subst hw'
  have hge := grownCap_ge w (0 + n) 0 63
  have hle := grownCap_le_maxLen w (0 + n) 0 63 (by unfold maxLen; omega)
  have hG : grownCap w (0 + n) 0 (Tryz.growV_ren.t 25) = grownCap w (0 + n) 0 63 := rfl
  rw [hG]
  generalize grownCap w (0 + n) 0 63 = G at hge hle
  have hx2 : Ext w (w.drew.alloc (.cells (([] : List Value).toArray ++ Builtin.zeroCells (Value.agg #[.int .i64 0, .int .i64 0]).cells (0 + n - 0) ++ Builtin.zeroCells (Value.agg #[.int .i64 0, .int .i64 0]).cells (G - (0 + n))) (Tryz.growV_ren.t 25))) := (Ext.refl w).drew.alloc _
  have hb2 : ∀ k, (hRowK (.slice (some ⟨w.heap.size, 0, none⟩) 0 G) 63 2 RV ([] : List Vx)).blk = some k → w.heap.size ≤ k ∧ k < (w.drew.alloc (.cells (([] : List Value).toArray ++ Builtin.zeroCells (Value.agg #[.int .i64 0, .int .i64 0]).cells (0 + n - 0) ++ Builtin.zeroCells (Value.agg #[.int .i64 0, .int .i64 0]).cells (G - (0 + n))) (Tryz.growV_ren.t 25))).heap.size := fun k hk => by
    cases hk
    exact ⟨Nat.le_refl _, by rw [World.size_alloc]; exact Nat.lt_succ_self _⟩
  refine hK _ _ ((h (.slice (some ⟨w.heap.size, 0, none⟩) 0 G)).on (hh.push hx2 hb2 ?_) (Fr.put (hf.mono fun d _ hd => Hp.pushed hx2 (fun k hk => (hb2 k hk).1) hd) rfl))
  refine hV_row.2 ⟨rfl, (([] : List Value).toArray ++ Builtin.zeroCells (Value.agg #[.int .i64 0, .int .i64 0]).cells (0 + n - 0) ++ Builtin.zeroCells (Value.agg #[.int .i64 0, .int .i64 0]).cells (G - (0 + n))).toList, ?_, by simp, by omega, ?_⟩
  · have := alloc_get w.drew (.cells (([] : List Value).toArray ++ Builtin.zeroCells (Value.agg #[.int .i64 0, .int .i64 0]).cells (0 + n - 0) ++ Builtin.zeroCells (Value.agg #[.int .i64 0, .int .i64 0]).cells (G - (0 + n))) (Tryz.growV_ren.t 25))
    rw [flatV_nil, List.nil_append, Array.toArray_toList]
    exact this
  · rw [flatV_nil, List.nil_append]
    simp [Builtin.zeroCells, Value.cells]
    omega
end
theorem allV_two {a b : List Vx} (ha : Asc a) : allV [] (a ++ b) = allV a b := by
  refine asc_ext (asc_allV (by simp [Asc])) (asc_allV ha) fun x => ?_
  rw [mem_allV, mem_allV]; simp
end Go.Proofs.YtjbepoofigokjaaGreat
namespace Go.Proofs.YtjbepoofigokjaaGreat
theorem cmpV_range (x y : Vx) : -1 ≤ cmpV x y ∧ cmpV x y ≤ 1 := by rcases cmpV_cases x y with h | h | h <;> omega
theorem cmpL_neg : ∀ (a b : List Vx), cmpL b a = - cmpL a b
  | [], [] => by simp [cmpL]
  | [], _ :: _ => by simp [cmpL]
  | _ :: _, [] => by simp [cmpL]
  | x :: a, y :: b => by
    unfold cmpL
    have h := cmpV_neg x y
    split <;> split
    · exact cmpL_neg a b
    · omega
    · omega
    · exact h
theorem cmpL_trans : ∀ (a b c : List Vx), cmpL a b ≤ 0 → cmpL b c ≤ 0 → cmpL a c ≤ 0 ∧ (cmpL a c = 0 → 0 ≤ cmpL a b + cmpL b c)
  | [], [], [], _, _ => by simp [cmpL]
  | [], [], _ :: _, _, _ => by simp [cmpL]
  | [], _ :: _, [], _, h => by simp [cmpL] at h
  | [], _ :: _, _ :: _, _, _ => by simp [cmpL]
  | _ :: _, [], _, h, _ => by simp [cmpL] at h
  | _ :: _, _ :: _, [], _, h => by simp [cmpL] at h
  | x :: a, y :: b, z :: c, h, h' => by
    have ih := cmpL_trans a b c
    unfold cmpL at h h' ⊢
    have r1 := cmpV_range x y
    have r2 := cmpV_range y z
    by_cases e1 : cmpV x y = 0
    · have := cmpV_eq.1 e1
      subst this
      rw [if_pos e1] at h ⊢
      by_cases e2 : cmpV x z = 0
      · simp only [e2, if_true] at h' ⊢
        exact ih h h'
      · rw [if_neg e2] at h'
        rw [if_neg e2]
        exact ⟨h', fun h0 => absurd h0 e2⟩
    · rw [if_neg e1] at h ⊢
      by_cases e2 : cmpV y z = 0
      · have := cmpV_eq.1 e2
        subst this
        rw [if_neg e1]
        omega
      · rw [if_neg e2] at h' ⊢
        have e3 := cmpV_trans (by omega : cmpV x y < 0) (by omega : cmpV y z < 0)
        rw [if_neg (by omega)]
        omega
end Go.Proofs.YtjbepoofigokjaaGreat
namespace Go.Proofs.YtjbepoofigokjaaGreat
abbrev Cx := List (List Vx)
def fewAllV (l : Cx) : Bool := decide (l.length ≤ 30) && l.all fun s => decide (s.length ≤ 10)
def insC : Cx → List Vx → Cx
  | [], s => [s]
  | x :: l, s => if cmpL s x < 0 then s :: x :: l else x :: insC l s
def putC (l : Cx) (s : List Vx) : Cx := if s ∈ l then l else insC l s
def coveredC (l : Cx) (s : List Vx) : Bool := l.any fun x => decide (s.length < x.length) && insideV s x
def topC (l : Cx) (s : List Vx) : Bool := decide (0 < s.length) && !coveredC l s
def maxC (l : Cx) : Cx := (l.filter (topC l)).foldl putC []
def chkO : Option (List Vx) → Cx → Int
  | _, [] => 0
  | p, s :: l => if chkV s ≠ 0 then chkV s else if (match p with | some u => decide (0 ≤ cmpL u s) | none => false) = true then 14 else chkO (some s) l
def twiceC (l : Cx) : Bool := (List.range l.length).any fun i => (List.range l.length).any fun k => decide (i ≠ k) && insideV (l.getD i []) (l.getD k [])
def chkC (l : Cx) : Int := if 4096 < l.length then 5 else if chkO none l ≠ 0 then chkO none l else if twiceC l = true then 7 else 0
def limC (l : Cx) : Cx × Int := if 4096 < l.length then ([], 5) else (l, 0)
def hasC' (c : Cx) (s : List Vx) : Bool := c.any fun f => insideV s f
def allC (c : Cx) (k : Nat) : Cx := c.foldl (fun out f => if f.length < k then out else (subsV k f).foldl putC out) []
theorem insC_len : ∀ (l : Cx) (s : List Vx), (insC l s).length = l.length + 1
  | [], s => rfl
  | x :: l, s => by
    unfold insC
    split
    · rfl
    · simp [insC_len l s]
theorem putC_len (l : Cx) (s : List Vx) : l.length ≤ (putC l s).length ∧ (putC l s).length ≤ l.length + 1 := by
  unfold putC
  split
  · omega
  · rw [insC_len]; omega
theorem foldPut_len : ∀ (l out : Cx), out.length ≤ (l.foldl putC out).length ∧ (l.foldl putC out).length ≤ out.length + l.length
  | [], out => by simp
  | s :: l, out => by
    have h1 := foldPut_len l (putC out s)
    have h2 := putC_len out s
    simp only [List.foldl_cons, List.length_cons]
    omega
theorem chkO_drop (l : Cx) (k : Nat) (h : k < l.length) : chkO (l.take k).getLast? (l.drop k) = if chkV l[k] ≠ 0 then chkV l[k] else if (match (l.take k).getLast? with | some u => decide (0 ≤ cmpL u l[k]) | none => false) = true then 14 else chkO (l.take (k + 1)).getLast? (l.drop (k + 1)) := by
  rw [drop_cons' h]
  conv => lhs; unfold chkO
  have e : (l.take (k + 1)).getLast? = some l[k] := by rw [take_snoc' h, List.getLast?_append]; rfl
  rw [e]
theorem lastC_take (l : Cx) (k : Nat) (h : k < l.length) (h0 : 0 < k) : (l.take k).getLast? = some l[k - 1] := by
  rw [List.getLast?_eq_getElem?, List.length_take, Nat.min_eq_left (by omega), List.getElem?_take_of_lt (by omega), List.getElem?_eq_getElem (by omega)]
end Go.Proofs.YtjbepoofigokjaaGreat
