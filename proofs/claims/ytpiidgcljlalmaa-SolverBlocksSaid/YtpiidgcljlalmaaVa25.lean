/- Part 25: walks by contracts, and plain laws. -/
import Derived.Deep.OwnRows
import Derived.Shelf.SlSortCmp.NoneTotal
import Derived.Test.YtpiidgcljlalmaaVa24
set_option linter.unusedVariables false
set_option linter.unusedSimpArgs false
set_option linter.unusedSectionVars false
namespace Go.Proofs.Ytpiidgcljlalmaa
open Go.RowKit
open S43 (SS LS up learnS CInv)
theorem perm_ln {K S L B c7 c8 c6 O G V R T : HObj} {hp : List HObj} : (K :: S :: L :: B :: c7 :: c8 :: c6 :: O :: G :: V :: R :: T :: hp).Perm ([K, c7, c8, c6, G] ++ (O :: S :: V :: L :: R :: T :: B :: hp)) :=
  perm_lk.symm.trans (List.Perm.append_right (S :: V :: L :: R :: T :: B :: hp) (l₁ := [c8, c7, G, O, c6, K]) (l₂ := [K, c7, c8, c6, G, O])
    ((perm_at (i := 5) rfl).trans (List.Perm.cons _ ((perm_at (i := 1) rfl).trans (List.Perm.cons _ (List.Perm.cons _ ((perm_at (i := 2) rfl).trans (List.Perm.refl _))))))))
theorem learn_c (X : Lay) (V : Nat) (s : SS) (k : Nat) (hV : V ≤ 100000) (hC : CInv V s k) (hb : s.begins ≠ []) (hs : s.list.length ≤ 1000000000000) :
    CallC Try.prog 76 ([dX (ptrS X), dI (k : Int)] ++ ([] : List Value).map dX) (full X V s) (fun d hp2 => ∃ v, d = dT [dX v, dI (((learnS s k).2 : Nat) : Int)] ∧ hp2 = hRow v tI RI (learnS s k).1 :: full X V s) := by
  refine CallC.drops (learn_w X V s k hV hC hb hs) fun d hp2 ⟨v, v2, b6, b7, b8, bm, t, h1, h2, h3⟩ => ?_
  subst h3
  refine ⟨[kPtr X v2, hCell b7 76 1 false (dX (.map (some bm))), hCell b8 tI 1 false (dI (t.opn : Int)), hCell b6 25 1 false (dX v), hG bm kvI is64 vvB (pSeen t.seen)], hRow v tI RI t.out :: full X V s, ?_, v, h2, by rw [h1]⟩
  unfold full
  simp only [core, lrO, List.cons_append, List.nil_append, List.append_nil]
  exact perm_ln
end Go.Proofs.Ytpiidgcljlalmaa
namespace Go.Proofs
open Go.Shelf
def Try.sortI_ren : Go.Shelf.Ren := ⟨fun | 6 => 101 | 15 => 108 | 14 => 107 | 28 => 119 | 29 => 120 | 20 => 111 | 21 => 112 | 22 => 113 | 23 => 114 | 24 => 115 | 25 => 116 | 26 => 117 | 27 => 118 | 46 => 121 | 47 => 122 | 48 => 123 | 49 => 124 | 50 => 125 | 57 => 126 | n => n, fun | 22 => 25 | 24 => 3 | 25 => 121 | 3 => 3 | 39 => 128 | 0 => 0 | 53 => 137 | 55 => 139 | 4 => 4 | 46 => 131 | 45 => 130 | 50 => 122 | 5 => 5 | 9 => 9 | 66 => 140 | 70 => 144 | 76 => 146 | 77 => 47 | n => n, fun | n => n⟩
theorem Try.sortI : Go.Proofs.SlLaysF.n6 Try.prog Try.sortI_ren := {
  mixed := by kernel_rfl
  f6 := ⟨Try.f101.name, by decide, Try.func101.trans (congrArg some (by kernel_rfl))⟩
  f14 := ⟨Try.f107.name, by decide, Try.func107.trans (congrArg some (by kernel_rfl))⟩
  f15 := Try.func108.trans (congrArg some (by kernel_rfl))
  f20 := ⟨Try.f111.name, by decide, Try.func111.trans (congrArg some (by kernel_rfl))⟩
  f21 := ⟨Try.f112.name, by decide, Try.func112.trans (congrArg some (by kernel_rfl))⟩
  f22 := ⟨Try.f113.name, by decide, Try.func113.trans (congrArg some (by kernel_rfl))⟩
  f23 := ⟨Try.f114.name, by decide, Try.func114.trans (congrArg some (by kernel_rfl))⟩
  f24 := ⟨Try.f115.name, by decide, Try.func115.trans (congrArg some (by kernel_rfl))⟩
  f25 := ⟨Try.f116.name, by decide, Try.func116.trans (congrArg some (by kernel_rfl))⟩
  f26 := ⟨Try.f117.name, by decide, Try.func117.trans (congrArg some (by kernel_rfl))⟩
  f27 := ⟨Try.f118.name, by decide, Try.func118.trans (congrArg some (by kernel_rfl))⟩
  f28 := Try.func119.trans (congrArg some (by kernel_rfl))
  f29 := Try.func120.trans (congrArg some (by kernel_rfl))
  f46 := ⟨Try.f121.name, by decide, Try.func121.trans (congrArg some (by kernel_rfl))⟩
  f47 := Try.func122.trans (congrArg some (by kernel_rfl))
  f48 := Try.func123.trans (congrArg some (by kernel_rfl))
  f49 := ⟨Try.f124.name, by decide, Try.func124.trans (congrArg some (by kernel_rfl))⟩
  f50 := ⟨Try.f125.name, by decide, Try.func125.trans (congrArg some (by kernel_rfl))⟩
  f57 := ⟨Try.f126.name, by decide, Try.func126.trans (congrArg some (by kernel_rfl))⟩
  t0 := Try.underlying0
  a0 := Try.isAgg0
  z0 := Try.sizeOf0
  v0 := Try.zeroValue0
  t3 := Try.underlying3
  a3 := Try.isAgg3
  z3 := Try.sizeOf3
  v3 := Try.zeroValue3
  t4 := Try.underlying4
  a4 := Try.isAgg4
  z4 := Try.sizeOf4
  v4 := Try.zeroValue4
  t5 := Try.underlying5
  a5 := Try.isAgg5
  z5 := Try.sizeOf5
  v5 := Try.zeroValue5
  t9 := Try.underlying9
  a9 := Try.isAgg9
  z9 := Try.sizeOf9
  v9 := Try.zeroValue9
  t22 := Try.underlying25
  a22 := Try.isAgg25
  z22 := Try.sizeOf25
  v22 := Try.zeroValue25
  a24 := Try.isAgg3
  z24 := Try.sizeOf3
  t25 := Try.underlying121
  a25 := Try.isAgg121
  z25 := Try.sizeOf121
  v25 := Try.zeroValue121
  t39 := Try.underlying128
  a39 := Try.isAgg128
  z39 := Try.sizeOf128
  v39 := Try.zeroValue128
  t45 := Try.underlying130
  a45 := Try.isAgg130
  z45 := Try.sizeOf130
  v45 := Try.zeroValue130
  t46 := Try.underlying131
  a46 := Try.isAgg131
  z46 := Try.sizeOf131
  v46 := Try.zeroValue131
  t50 := Try.underlying122
  a50 := Try.isAgg122
  z50 := Try.sizeOf122
  v50 := Try.zeroValue122
  t53 := Try.underlying137
  a53 := Try.isAgg137
  z53 := Try.sizeOf137
  v53 := Try.zeroValue137
  t55 := Try.underlying139
  a55 := Try.isAgg139
  z55 := Try.sizeOf139
  v55 := Try.zeroValue139
  t66 := Try.underlying140
  a66 := Try.isAgg140
  z66 := Try.sizeOf140
  v66 := Try.zeroValue140
  t70 := Try.underlying144
  a70 := Try.isAgg144
  z70 := Try.sizeOf144
  v70 := Try.zeroValue144
  t76 := Try.underlying146
  a76 := Try.isAgg146
  z76 := Try.sizeOf146
  v76 := Try.zeroValue146
  t77 := Try.underlying47
  a77 := Try.isAgg47
  z77 := Try.sizeOf47
  v77 := Try.zeroValue47 }
end Go.Proofs
namespace Go.Proofs.Ytpiidgcljlalmaa
open Go.RowKit Go.Sort Go.Shelf
section
variable {w : World} {g n cap : Nat} {os : Array Obj} {cur : Array Value} {e : TypeId} {fz : Nat × Nat} {α : Type} [Inhabited α] {enc : α → Value}
theorem grownBy_sorted1 (d : Array α) : w.grownBy (sortWorld enc w g 0 n d os) (some g) := by
  refine ⟨rfl, rfl, rfl, by simp [sortWorld], fun k hk hne => ?_⟩
  unfold sortWorld
  rw [heap_grow_old _ _ (by simpa using hk)]
  have : g ≠ k := fun e => hne (by rw [e])
  simp [putRow, mapBlock, Sort.ahead, Array.getElem?_modify, this]
theorem heap_sorted1 (d : Array α) (hb : w.heap[g]? = some (.cells cur e fz)) :
    (sortWorld enc w g 0 n d os).heap[g]? = some (.cells (putCells enc 0 d cur) e fz) := by
  have hg : g < w.heap.size := (Array.getElem?_eq_some_iff.1 hb).1
  unfold sortWorld
  rw [heap_grow_old _ _ (by simpa using hg)]
  simp [putRow, mapBlock, Sort.ahead, Array.getElem?_modify, hb, onCells]
theorem holds_of_row1 {d : Array α} (hb : w.heap[g]? = some (.cells cur e (0, 0))) (ht : cur.toList.take d.size = d.toList.map enc) : Holds enc w g 0 d := by
  intro j hj
  refine ⟨?_, by simp [World.frozen?, hb]⟩
  have h1 : (cur.toList.take d.size)[j]? = (d.toList.map enc)[j]? := by rw [ht]
  rw [List.getElem?_take_of_lt hj] at h1
  simp only [World.cell?, hb, Nat.zero_add]
  simp only [Option.isSome_none, Bool.false_eq_true, if_false]
  rw [← Array.getElem?_toList, h1, getElem!_pos _ j hj]
  simp [hj]
theorem take_putCells1 (cur : Array Value) (d : Array α) (h : d.size ≤ cur.size) : (putCells enc 0 d cur).toList.take d.size = d.toList.map enc := by
  apply List.ext_getElem?
  intro j
  by_cases hj : j < d.size
  · rw [List.getElem?_take_of_lt hj, Array.getElem?_toList]
    simp [putCells, hj, show j < cur.size by omega]
  · rw [List.getElem?_take_eq_none (by omega), List.getElem?_eq_none (by simp; omega)]
end
theorem var_x (x : Int) (hx : x.natAbs ≤ 1000000) (w : World) : Calls Try.prog 98 #[.int .i64 x] w fun e w' => e = .returned (.int .i64 (x.natAbs : Int)) ∧ w' = w := by
  go_enter Try.func98, Try.ntmps98
  go_wp2
  all_goals (go_ret; refine ⟨ret_i ?_, rfl⟩)
  all_goals omega
theorem ord_x (x y : Int) (hx : x.natAbs ≤ 1000000) (hy : y.natAbs ≤ 1000000) (w : World) : Calls Try.prog 102 #[.int .i64 x, .int .i64 y] w fun e w' => e = .returned (.int .i64 ((x.natAbs : Int) - (y.natAbs : Int))) ∧ ∃ q, w' = w.drewN q := by
  go_enter Try.func102, Try.ntmps102
  go_wp2_with (first | (go_at_call 98; refine (var_x _ (by assumption) _).mono ?_; rintro e w1 ⟨rfl, rfl⟩))
  all_goals (go_ret; refine ⟨ret_i ?_, 0, rfl⟩)
  all_goals omega
theorem swoI {α : Type} {f : α → Int} : SWO (ltOf fun x y : α => f x - f y) where
  irrefl x := by simp [ltOf]
  trans x y z h h' := by
    simp only [ltOf, decide_eq_true_eq] at *
    omega
  ntrans x y z h h' := by
    simp only [ltOf, decide_eq_false_iff_not] at *
    omega
section
variable {ops : Array Oper} {hp : List HObj} {fr : List Dat} {Q : Post} {rest : List Oper} {dst : Option Tmp} {ty : TypeId} {ps : String} {af : Array Edge}
theorem WL.sortI {x : Operand} {v : Value} {e : TypeId} {xs : List Int} {ats : Array TypeId} (hx : OpD fr x (dX v)) (hlen : xs.length < 4611686018427387904) (hxs : ∀ x ∈ xs, x.natAbs ≤ 1000000)
    (h : ∀ ys : List Int, ys.Perm xs → Srt ys → WL Try.prog ops Q rest (setD fr dst dA) (hRow v e RI ys :: hp)) :
    WL Try.prog ops Q ({ dst := dst, op := .call { callee := .value (.func 101), args := #[x, .func 102], argTypes := ats }, type := ty, pos := ps, after := af, guard := none } :: rest) fr (hRow v e RI xs :: hp) := by
  refine WL.of fun P0 B w0 w a hh hf => ?_
  have hok := hh.ok (hRow v e RI xs) (by simp)
  obtain ⟨us, h1, h2, h3⟩ := hok
  have hev : a.eval x = v := hx.ev hf
  obtain ⟨hfl, hv⟩ := h2
  have hrun : (execOp a.eval { dst := dst, op := .call { callee := .value (.func 101), args := #[x, .func 102], argTypes := ats }, type := ty, pos := ps, after := af, guard := none }).run Try.prog w = .ok (.enter 101 #[v, .func (.func 102) #[] #[]]) w := by
    unfold execOp
    simp only [resolve]
    have he : (#[x, Operand.func 102] : Array Operand).map a.eval = #[v, .func (.func 102) #[] #[]] := by simp [hev]; rfl
    rw [he]
    simp [Act.eval, Deferred.ofValue, invoke, Try.call101]
  by_cases hne : xs = []
  · subst hne
    have hv0 : ∃ p cap, v = .slice p 0 cap := by
      rcases hv with ⟨hv, _⟩ | ⟨g, cap, cur, hv, _⟩
      · exact ⟨_, _, hv⟩
      · exact ⟨_, _, hv⟩
    obtain ⟨p, cap, hv0⟩ := hv0
    have hcon := AnyF.slices_SortFunc_none (P := Try.prog) (ρ := Try.sortI_ren) { Try.sortI with } p cap (.func (.func 102) #[] #[]) w
    change Calls Try.prog 101 _ _ _ at hcon
    refine wpList_plain rfl fun K hK => ?_
    unfold Oper.wp
    rw [hrun, hv0]
    refine hcon.mono fun e' w' ⟨he, hw'⟩ => ?_
    subst he
    subst hw'
    exact hK _ _ ((h [] (List.Perm.refl _) List.Pairwise.nil).on hh (hf.put (d := dA) trivial))
  have hpos : 0 < xs.length := List.length_pos_iff.2 hne
  rcases hv with ⟨_, hz⟩ | ⟨g, cap, cur, hv, hB, hg, hc1, hc2, hc3, hc4⟩
  · omega
  have hgb : g < w.heap.size := (Array.getElem?_eq_some_iff.1 hg).1
  let α := {p : Int // p.natAbs ≤ 1000000}
  haveI : Inhabited α := ⟨⟨0, by decide⟩⟩
  let at0 : Fin xs.length → α := fun k => ⟨xs[k.1], hxs _ (List.getElem_mem _)⟩
  let enc : α → Value := fun p => .int .i64 p.1
  let d : Array α := (List.ofFn at0).toArray
  have hds : d.size = xs.length := by simp [d]
  have hus : us = xs.map fun x => Value.int .i64 x := by
    apply List.ext_getElem (by simp [h1])
    intro k a b
    rw [List.getElem_map]
    exact (h3 k a (by simpa using b)).2
  have hdx : d.toList.map (fun p => p.1) = xs := by
    apply List.ext_getElem (by simp [d])
    intro k a b
    simp [d, at0]
  have hdu : d.toList.map enc = us := by
    rw [hus]
    have : d.toList.map enc = (d.toList.map (fun p => p.1)).map fun x => Value.int .i64 x := by rw [List.map_map]; rfl
    rw [this, hdx]
  have hown : v.ownBlock = some g := by rw [hv]; rfl
  have hH : Holds enc w g 0 d := holds_of_row1 hg (by rw [hds, hdu]; simpa using hc4)
  have hgr : ∀ (d' : Array α) (n : Nat) (os : Array Obj), w.grownBy (sortWorld enc w g 0 n d' os) (hRow v e RI xs).blk := fun d' n os => by
    show w.grownBy _ v.ownBlock
    rw [hown]; exact grownBy_sorted1 d'
  have hcon := Any.slices_SortFunc Try.sortI enc (fun p => rfl) (fun p q => ((p.1.natAbs : Int) - (q.1.natAbs : Int))) swoI 102 #[] g 0 cap d w Try.call102
    (fun m os dk _ p q => (ord_x p.1 q.1 p.2 q.2 _).mono fun e' w' ⟨he, q, hq⟩ => ⟨he, q, #[], by rw [hq, grow_empty]⟩) hH hgb (by rw [hds]; exact hlen)
  change Calls Try.prog 101 _ _ _ at hcon
  refine wpList_plain rfl fun K hK => ?_
  unfold Oper.wp
  rw [hrun]
  have hva : v = .slice (some ⟨g, 0, none⟩) d.size cap := by rw [hds]; exact hv
  rw [← hva] at hcon
  refine hcon.mono fun e' w' ⟨he, d', n, os, hp1, hs, hw'⟩ => ?_
  subst he
  subst hw'
  obtain ⟨q1, _, q3⟩ := hp1
  have hperm : d'.toList.Perm d.toList := by
    have e1 : d'.extract 0 d.size = d' := by rw [← q1]; simp
    have e2 : d.extract 0 d.size = d := by simp
    rw [e1, e2] at q3
    exact q3
  have hys : (d'.toList.map fun p => p.1).Perm xs := by
    have := hperm.map (fun p : α => p.1)
    rwa [hdx] at this
  have hsort : Srt (d'.toList.map fun p => p.1) := by
    unfold Srt
    rw [List.pairwise_map, List.pairwise_iff_getElem]
    intro i j hi hj hij
    have hi' : i < d'.size := by simpa using hi
    have hj' : j < d'.size := by simpa using hj
    have := hs i j (Nat.zero_le _) hij (by omega)
    rw [getElem!_pos d' i hi', getElem!_pos d' j hj'] at this
    simp only [ltOf, decide_eq_false_iff_not] at this
    simp only [Array.getElem_toList]
    omega
  have hlen' : (d'.toList.map fun p => p.1).length = xs.length := by simp; omega
  have hok : (hRow v e RI (d'.toList.map fun p => p.1)).ok (fun k => Imm P0 B (hRow v e RI xs :: hp) k ∧ k < w.heap.size) (sortWorld enc w g 0 n d' os) := by
    refine ⟨d'.toList.map enc, by simp, ⟨by simp, .inr ⟨g, cap, putCells enc 0 d' cur, ?_, hB, heap_sorted1 _ hg, by omega, hc2, by simp [putCells, hc3], ?_⟩⟩, fun k a b => ?_⟩
    · rw [hlen']; exact hv
    · rw [hlen', Nat.mul_one, ← hds, ← q1]
      exact take_putCells1 _ _ (by rw [q1, hds, hc3]; omega)
    · exact ⟨by rw [List.getElem_map]; rfl, by rw [List.getElem_map, List.getElem_map]; rfl⟩
  exact hK _ _ ((h _ hys hsort).on (hh.write (hgr d' n os) (.inl rfl) hok) (Fr.put (hf.mono fun _ _ hd => Hp.written (o' := hRow v e RI (d'.toList.map fun p => p.1)) (hgr d' n os) (.inl rfl) hd) (d := dA) trivial))
end
end Go.Proofs.Ytpiidgcljlalmaa
namespace Go.Proofs.Ytpiidgcljlalmaa
open Go.RowKit
theorem made_zero (z : Value) (n : Nat) : (madeCells #[z] n).toList = List.replicate n z := by
  unfold madeCells
  apply List.ext_getElem (by simp)
  intro i h1 h2
  simp [Nat.mod_one]
section
variable {P : Program} {ops : Array Oper} {hp : List HObj} {fr : List Dat} {d : Dat} {Q : Post} {rest : List Oper}
variable {dst : Option Tmp} {ty : TypeId} {ps : String} {af : Array Edge} {bytes : Nat} {e t : TypeId}
theorem WL.makeI {n : Nat} {j : Int} {y y' : Operand} (E : ElT P t e 1 (.int .i64 0) bytes false) (hy : OpD fr y (dI j)) (hy' : OpD fr y' (dI j)) (hj : j = (n : Int)) (hb : bytes * n ≤ 281474976710656) (hm : n ≤ 1000000000) (h : ∀ v, WL P ops Q rest (setD fr dst (dX v)) (hRow v e RI (List.replicate n (0 : Int)) :: hp)) :
    WL P ops Q ({ dst := dst, op := .makeSlice t y y', type := ty, pos := ps, after := af, guard := none } :: rest) fr hp := by
  refine WL.of fun P0 B w0 w a hh hf => ?_
  have h1 : a.eval y = .int .i64 n := by rw [← hj]; exact hy.ev hf
  have h2 : a.eval y' = .int .i64 n := by rw [← hj]; exact hy'.ev hf
  have hr := run_make_row' (P := P) t e (.int .i64 0) bytes E.und E.info rfl .i64 .i64 n hb (by omega) w
  refine wpList_value rfl (v := .slice (some ⟨w.heap.size, 0, none⟩) n n) (w' := w.alloc (.cells (madeCells #[.int .i64 0] n) e)) ?_ ?_
  · unfold execOp
    simp only [h1, h2, Sem.run_bind, hr, Result.andThen_ok, Sem.run_pure]
  have hx := Ext.of_alloc w (.cells (madeCells #[.int .i64 0] n) e)
  have hb' : ∀ q, (hRow (.slice (some ⟨w.heap.size, 0, none⟩) n n) e RI (List.replicate n (0 : Int))).blk = some q → w.heap.size ≤ q ∧ q < (w.alloc (.cells (madeCells #[.int .i64 0] n) e)).heap.size := fun q hq => by
    cases hq
    exact ⟨Nat.le_refl _, by simp⟩
  refine (h _).on (hh.push hx hb' ?_) (Fr.put (hf.mono fun d _ hd => Hp.pushed hx (fun k hk => (hb' k hk).1) hd) rfl)
  refine ⟨List.replicate n (.int .i64 0), by simp, ⟨by simp, .inr ⟨w.heap.size, n, madeCells #[.int .i64 0] n, by simp, Nat.zero_le _, alloc_get w _, by simp, by simp only [maxLen]; omega, by simp [size_madeCells], ?_⟩⟩, fun k a b => ?_⟩
  · rw [made_zero, List.length_replicate, Nat.mul_one, List.take_of_length_le (by simp)]
  · simp only [List.getElem_replicate]
    exact ⟨rfl, rfl⟩
end
end Go.Proofs.Ytpiidgcljlalmaa
namespace Go.Proofs.Ytpiidgcljlalmaa
open Go.RowKit
open S43 (SS up)
theorem CallC.froz {P : Program} {f : FuncId} {ds : List Dat} {hp1 : List HObj} {e : TypeId} {α : Type} {R : Rel α} {_gR : Good R} {p : List α → Prop} (h : CallC P f ds hp1 fun d hp2 => ∃ v ys, p ys ∧ d = dX v ∧ hp2 = [hRow v e R ys]) : CallC P f ds hp1 fun d hp2 => ∃ ys : {ys : List α // p ys}, d = dS (Arr R) ys.1 ∧ hp2 = [] := ⟨fun P0 B w0 hp vs W hh hl hv => by
  refine Calls.mono (h.out P0 B w0 hp vs W hh hl hv) fun e' W' ⟨v, d, hp2, he, hk, hh2, hd⟩ => ?_
  obtain ⟨u, ys, hp, rfl, rfl⟩ := hk
  have hvu : v = u := hd
  refine ⟨v, _, _, he, ⟨⟨ys, hp⟩, rfl, rfl⟩, hh2.drop, ?_⟩
  rw [hvu]
  exact Own.keep hh2⟩
set_option linter.unusedSimpArgs false
set_option linter.unusedVariables false
set_option maxHeartbeats 2000000
set_option maxRecDepth 100000
theorem ordered_c (xs : List Int) (hl : xs.length ≤ 1000000) (hx : ∀ x ∈ xs, x.natAbs ≤ 1000000) : CallC Try.prog 77 ([dS Ints xs] ++ ([] : List Value).map dX) [] fun d hp2 => ∃ ys : {ys : List Int // ys.Perm xs ∧ Srt ys}, d = dS Ints ys.1 ∧ hp2 = [] := by
  refine CallC.froz (e := tI) (R := RI) (_gR := inferInstance) ?_
  (refine CallC.intro Try.func77 rfl rfl (fun hp => ?_); simp only [Try.ntmps77, List.length_cons, List.length_nil, List.length_append, List.length_map, Nat.reduceAdd, Nat.reduceSub, List.replicate_succ, List.replicate_zero, List.cons_append, List.nil_append, List.map_cons, List.map_nil, List.append_assoc])
  ((repeat' (first | (apply WL.opN; exact yF; dsimp only [setD, z0, z1]) | refine WL.nil ?_ | refine WC.seqK fun Kx hK => ?_ | (refine hK _ _ ?_; clear hK) | refine WC.region ?_ |  (refine WL.callC (hp1 := []) (caps := []) (clone_c xs hl) Try.call52 OpD.f (by (exact aD)) ?_; rintro d' hp2 ⟨v, rfl, rfl⟩; dsimp only [setD, z0, z1, List.cons_append, List.nil_append]) |  (refine WL.sortI (OpD.t rfl) (by omega) hx fun ys hys hso => ?_; dsimp only [setD, z0, z1]) | refine WC.ret ?_)); all_goals (first | ((repeat clear hK); (repeat clear Kx))))
  exact ⟨trivial, _, [_], rfl, rfl, _, ys, ⟨hys, hso⟩, rfl, rfl⟩
theorem model_c (X : Lay) (V : Nat) (s : SS) (hV : V ≤ 1000000) (hs : ∀ x ∈ s.trail, x ≠ 0 ∧ x.natAbs ≤ V) (ht : s.trail.length ≤ 1000000) :
    CallC Try.prog 80 ([dX (ptrS X)] ++ ([] : List Value).map dX) (core X V s) (fun d hp2 => ∃ v, d = dX v ∧ hp2 = hRow v tI RI (modelS V s.trail) :: core X V s) := by
  (refine CallC.intro Try.func80 rfl rfl (fun hp => ?_); simp only [Try.ntmps80, List.length_cons, List.length_nil, List.length_append, List.length_map, Nat.reduceAdd, Nat.reduceSub, List.replicate_succ, List.replicate_zero, List.cons_append, List.nil_append, List.map_cons, List.map_nil, List.append_assoc])
  have h8 : 8 * V ≤ 281474976710656 := by omega
  (repeat' (first | (apply WL.opN; exact yF; dsimp only [setD, z0, z1]) | refine WL.nil ?_ | refine WC.seqK fun Kx hK => ?_ | (refine hK _ _ ?_; clear hK) | refine WC.region ?_ |  (refine WL.makeI elI (OpD.t rfl) (OpD.t rfl) rfl h8 (by omega) fun v => ?_; dsimp only [setD, z0, z1]) | (apply WL.opN; (focus ((first | (exact SY.nilCk (OpD.t rfl)) | (refine SY.fldS strS (OpD.t rfl) (by decide)) | (apply SY.loadS; (first | exact tyI | exact tySi); exact OpD.t rfl; (first | exact mAt 0 rfl | exact mAt 1 rfl); rfl) | (apply SY.lenR; exact OpD.t rfl; exact mAt 5 rfl; exact elI.unt) | fail); all_goals infer_instance)); dsimp only [setD, z0, z1]) | refine WC.block ?_))
  (refine WC.loopU (X := Nat) (fun i => [(16, dI (i : Int)), (5, dA), (17, dA), (18, dA), (19, dA), (20, dA), (21, dA), (22, dA), (23, dA), (24, dA), (25, dA), (26, dA)]) (fun i => (hRow v tI RI (modelS V (s.trail.take i)) :: oS X V s :: oV X s :: oL X s :: oR X s :: oT X s :: oB X s :: hp)) (fun i => s.trail.length - i) (fun i => i ≤ s.trail.length) 0 ?start ?frame0 ?objs0 ?round)
  case start => exact Nat.zero_le _
  case frame0 => ((try dsimp only [upds, z0, z1]); repeat (first | exact LeF.nil | refine LeF.co (k := ?_)))
  case objs0 => rfl
  case round =>
    rintro i hi
    dsimp only [upds, z0, z1]
    by_cases hin : i < s.trail.length
    · have hle : (i : Int) < (s.trail.length : Int) := by omega
      obtain ⟨hx0, hxV⟩ := hs _ (List.getElem_mem hin)
      have hvx := variable_p s.trail[i] (by omega)
      have hk : (s.trail[i]).natAbs - 1 < (modelS V (s.trail.take i)).length := by rw [model_len]; omega
      have hc : (((s.trail[i]).natAbs : Nat) : Int) - 1 = (((s.trail[i]).natAbs - 1 : Nat) : Int) := by omega
      have et := model_snoc (V := V) hin
      ((repeat' (first | (apply WL.opN; exact yF; dsimp only [setD, z0, z1]) | refine WL.nil ?_ | refine WC.seqK fun Kx hK => ?_ | (refine hK _ _ ?_; clear hK) | refine WC.region ?_ |  (refine WL.ofSW (SW.at 0 rfl fun q => SW.storeR tyI (OpD.t rfl) (OpD.t rfl) shape_I hk) fun _ => ?_; dsimp only [setD, z0, z1]) | (apply WL.opN; (focus ((first | (apply SY.call (hvx) Try.call98; (exact aD)) | (exact SY.ixR elI (OpD.t rfl) (mAt 5 rfl) (OpD.t rfl) rfl hin) | (exact SY.loadR tyI (OpD.t rfl) (mAt 5 rfl) hin) | (exact SY.ixR elI (OpD.t rfl) (mAt 0 rfl) (OpD.t rfl) hc hk) | ((first | apply SY.move | apply SY.assign | apply SY.lss) <;> (exact oD)) | ((first | apply SY.add | apply SY.sub) <;> first | exact oD | omega) | fail); all_goals infer_instance)); dsimp only [setD, z0, z1]) | (apply WC.condD; (exact oD); all_goals (intro h; try exact xD)) | refine WC.skip ?_ | refine WC.block ?_ | refine ThenD.n ?_)); all_goals (first | ((repeat clear hK); (repeat clear Kx))))
      all_goals try (exfalso; first | contradiction | omega)
      rw [← et]
      (refine ⟨i + 1, ?_, by first | omega | (simp only; omega), rfl, ?_⟩; rotate_left; ((try dsimp only [upds, z0, z1]); repeat (first | exact LeF.nil | refine LeF.co (k := ?_))); (try dsimp only))
      omega
    · have hle : ¬ (i : Int) < (s.trail.length : Int) := by omega
      obtain rfl : i = s.trail.length := by omega
      rw [List.take_length]
      ((repeat' (first | (apply WL.opN; exact yF; dsimp only [setD, z0, z1]) | refine WL.nil ?_ | refine WC.seqK fun Kx hK => ?_ | (refine hK _ _ ?_; clear hK) | (refine Kont.skip ?_; clear hK) | refine WC.region ?_ | (apply WL.opN; (focus ((first | ((first | apply SY.move | apply SY.assign | apply SY.lss) <;> (exact oD)) | fail); all_goals infer_instance)); dsimp only [setD, z0, z1]) | (apply WC.condD; (exact oD); all_goals (intro h; try exact xD)) | refine WC.ret ?_ | refine WC.exit ?_)); all_goals (first | ((repeat clear hK); (repeat clear Kx))))
      all_goals try (exfalso; first | contradiction | omega)
      exact ⟨trivial, _, hRow v tI RI (modelS V s.trail) :: core X V s, rfl, rfl, v, rfl, rfl⟩
end Go.Proofs.Ytpiidgcljlalmaa
namespace Go.Proofs.Ytpiidgcljlalmaa
open Go.RowKit
open S43 (SS up backS)
set_option linter.unusedSimpArgs false
set_option linter.unusedVariables false
set_option maxHeartbeats 2000000
set_option maxRecDepth 100000
set_option maxHeartbeats 8000000 in
theorem back_w (hp : List HObj) {gc : Code} (hgb : Try.f74.body = some gc) (X : Lay) (V : Nat) (s : SS) (l : Nat) (hl0 : l ≤ 1000000) (hs : ∀ x ∈ s.trail, x.natAbs ≤ 1000000) (hb : ∀ b ∈ s.begins, b ≤ s.trail.length) (ht : s.trail.length ≤ 1000000) (hbl : s.begins.length ≤ 1000000) :
    WC Try.prog (finC0 (fun _ hp2 => ∃ v v', hp2 = core { X with vT := v, vB := v' } V (backS s l)) hp) gc ([dX (ptrS X), dI (l : Int)] ++ List.replicate (Try.f74.ntmps - 2) (dX undef)) (core X V s ++ hp) := by
  -- @kinds (*solver.search).back
  have hgc := Option.some.inj (show some _ = some gc from hgb)
  subst hgc
  simp only [Try.ntmps74, List.length_cons, List.length_nil, List.length_append, List.length_map, Nat.reduceAdd, Nat.reduceSub, List.replicate_succ, List.replicate_zero, List.cons_append, List.nil_append, List.map_cons, List.map_nil, List.append_assoc]
  have e1 : (ints s.begins).length = s.begins.length := ints_len _
  by_cases hl : s.begins.length ≤ l
  · have hlt : (l : Int) ≥ ((ints s.begins).length : Int) := by rw [e1]; omega
    have e0 : backS s l = s := if_pos hl
    ((repeat' (first | ((first | apply WL.opN | apply WD.opN); exact yF; dsimp only [setD, z0, z1]) | refine WL.nil ?_ | refine WC.seqK fun Kx hK => ?_ | (refine hK _ _ ?_; clear hK) | refine WC.region ?_ | ((first | apply WL.opN | apply WD.opN); (focus ((first | (exact SY.nilCk (OpD.t rfl)) | (refine SY.fldS strS (OpD.t rfl) (by decide)) | (apply SY.loadS; (first | exact tyI | exact tySi | exact tyF | exact tyFL); exact OpD.t rfl; exact mAt 0 rfl; rfl) | (apply SY.lenR; exact OpD.t rfl; exact mAt 5 rfl; exact elI.unt) | ((first | apply SY.move | apply SY.assign | apply SY.lss | apply SY.geq) <;> (exact oD)) | fail); all_goals infer_instance)); dsimp only [setD, z0, z1]) | (apply WC.condD; (exact oD); all_goals (intro h; try exact xD)) | refine WC.ret ?_ | refine ThenD.r ?_)); all_goals (first | ((repeat clear hK); (repeat clear Kx))))
    all_goals try (exfalso; omega)
    rw [e0]
    exact ⟨trivial, core { X with vT := X.vT, vB := X.vB } V s, rfl, X.vT, X.vB, rfl⟩
  have hlb : l < (ints s.begins).length := by omega
  obtain ⟨n, hn⟩ : ∃ n, s.begins[l]'(by omega) = n := ⟨_, rfl⟩
  have hni : (ints s.begins)[l] = (n : Int) := by rw [ints_get, hn]
  have hnt : n ≤ s.trail.length := by rw [← hn]; exact hb _ (List.getElem_mem _)
  have hg : s.begins.getD l 0 = n := by rw [List.getD_eq_getElem?_getD, List.getElem?_eq_getElem (by omega), Option.getD_some, hn]
  have hmin : (if (((s.trail.take n).length : Nat) : Int) < (s.head : Int) then (((s.trail.take n).length : Nat) : Int) else (s.head : Int)) = ((min s.head n : Nat) : Int) := by
    rw [List.length_take]; split <;> omega
  (repeat' (first | ((first | apply WL.opN | apply WD.opN); exact yF; dsimp only [setD, z0, z1]) | refine WL.nil ?_ | refine WD.nil ?_ | refine WC.seqK fun Kx hK => ?_ | (refine hK _ _ ?_; clear hK) | refine WC.region ?_ | (apply WC.draw; kernel_rfl; kernel_rfl) | ((first | apply WL.opN | apply WD.opN); (focus ((first | (exact SY.nilCk (OpD.t rfl)) | (refine SY.fldS strS (OpD.t rfl) (by decide)) | (apply SY.loadS; (first | exact tyI | exact tySi | exact tyF | exact tyFL); exact OpD.t rfl; exact mAt 0 rfl; rfl) | (apply SY.lenR; exact OpD.t rfl; exact mAt 5 rfl; exact elI.unt) | (exact SY.ixR elI (OpD.t rfl) (mAt 5 rfl) (OpD.t rfl) rfl hlb) | (exact SY.loadR tyI (OpD.t rfl) (mAt 5 rfl) hlb) | (exact SY.fromR elI (OpD.t rfl) (mAt 4 rfl) (OpD.t rfl) hni hnt) | (exact SY.lenFrom Try.underlying25 (OpD.t rfl) (mAt 4 rfl) hnt) | ((first | apply SY.move | apply SY.assign | apply SY.lss | apply SY.geq) <;> (exact oD)) | fail); all_goals infer_instance)); dsimp only [setD, z0, z1]) | (apply WC.condD; (exact oD); all_goals (intro h; try exact xD)) | refine WC.skip ?_ | refine WC.block ?_))
  all_goals try (exfalso; omega)
  (refine WC.loopU (X := Nat) (fun i => [(26, dI (i : Int)), (5, dA), (27, dA), (28, dA), (29, dA), (30, dA), (31, dA), (32, dA), (33, dA), (34, dA), (35, dA), (36, dA), (37, dA), (38, dA), (39, dA), (40, dA), (41, dA), (42, dA), (43, dA), (44, dA), (45, dA), (46, dA), (47, dA)]) (fun i => (oS X V s :: hG X.bv kvI is64 vvB (pVal (delV s.val ((s.trail.drop n).take i))) :: hG X.bl kvI is64 kvI (pLev (delL s.lev ((s.trail.drop n).take i))) :: hG X.br kvI is64 kvI (pRea (delR s.rea ((s.trail.drop n).take i))) :: oT X s :: oB X s :: hp)) (fun i => s.trail.length - n - i) (fun i => i ≤ s.trail.length - n) 0 ?start ?frame0 ?objs0 ?round)
  case start => exact Nat.zero_le _
  case frame0 => ((try dsimp only [upds, z0, z1]); repeat (first | exact LeF.nil | refine LeF.co (k := ?_)))
  case objs0 => rfl
  case round =>
    rintro i hi
    dsimp only [upds, z0, z1]
    by_cases hin : n + i < s.trail.length
    · have hy := hs _ (List.getElem_mem hin)
      have hy2 := variable_p s.trail[n + i] hy
      have hy3 : is64 (((s.trail[n + i]).natAbs : Nat) : Int) := by unfold is64; omega
      have hdn : (i : Int) < ((s.trail.length - n : Nat) : Int) := by omega
      have et := take_snoc hin
      ((repeat' (first |  (apply WC.drawTail (id := 5) 6; kernel_rfl; kernel_rfl; simp only [List.take_succ_cons, List.take_zero, List.drop_succ_cons, List.drop_zero]) |  (apply WC.drawTail (id := 6) 6; kernel_rfl; kernel_rfl; simp only [List.take_succ_cons, List.take_zero, List.drop_succ_cons, List.drop_zero]) | ((first | apply WL.opN | apply WD.opN); exact yF; dsimp only [setD, z0, z1]) | refine WL.nil ?_ | refine WD.nil ?_ | refine WC.seqK fun Kx hK => ?_ | (refine hK _ _ ?_; clear hK) | refine WC.region ?_ |  (refine WL.ofSW (SW.at 1 rfl fun q => SW.delG (pVal (delV s.val ((s.trail.drop n).take i ++ [s.trail[n + i]]))) mapT_b keyT_I (OpD.t rfl) (OpD.t rfl) isI (i64 hy) delV_del) fun _ => ?_; dsimp only [setD, z0, z1]) |  (refine WL.ofSW (SW.at 2 rfl fun q => SW.delG (pLev (delL s.lev ((s.trail.drop n).take i ++ [s.trail[n + i]]))) mapT_i keyT_I (OpD.t rfl) (OpD.t rfl) isI hy3 delL_del) fun _ => ?_; dsimp only [setD, z0, z1]) |  (refine WL.ofSW (SW.at 3 rfl fun q => SW.delG (pRea (delR s.rea ((s.trail.drop n).take i ++ [s.trail[n + i]]))) mapT_i keyT_I (OpD.t rfl) (OpD.t rfl) isI hy3 delR_del) fun _ => ?_; dsimp only [setD, z0, z1]) | ((first | apply WL.opN | apply WD.opN); (focus ((first | (apply SY.call (hy2) Try.call98; (exact aD)) | (exact SY.nilCk (OpD.t rfl)) | (refine SY.fldS strS (OpD.t rfl) (by decide)) | (apply SY.loadS; (first | exact tyI | exact tySi | exact tyF | exact tyFL); exact OpD.t rfl; exact mAt 0 rfl; rfl) | (exact SY.ixFrom elI (OpD.t rfl) (mAt 4 rfl) (OpD.t rfl) rfl hin) | (exact SY.loadR tyI (OpD.t rfl) (mAt 4 rfl) hin) | ((first | apply SY.move | apply SY.assign | apply SY.lss | apply SY.geq) <;> (exact oD)) | ((first | apply SY.add) <;> first | exact oD | omega) | fail); all_goals infer_instance)); dsimp only [setD, z0, z1]) | (apply WC.condD; (exact oD); all_goals (intro h; try exact xD)) | refine WC.skip ?_ | refine WC.block ?_ | refine ThenD.n ?_)); all_goals (first | ((repeat clear hK); (repeat clear Kx))))
      all_goals try (exfalso; first | contradiction | omega)
      rw [← et]
      (refine ⟨i + 1, ?_, by first | omega | (simp only; omega), rfl, ?_⟩; rotate_left; ((try dsimp only [upds, z0, z1]); repeat (first | exact LeF.nil | refine LeF.co (k := ?_))); (try dsimp only))
      omega
    · have hdn : ¬ (i : Int) < ((s.trail.length - n : Nat) : Int) := by omega
      obtain rfl : i = s.trail.length - n := by omega
      have ea : (s.trail.drop n).take (s.trail.length - n) = s.trail.drop n := List.take_of_length_le (by rw [List.length_drop]; exact Nat.le_refl _)
      rw [ea]
      refine WC.rowIs (mAt 4 rfl) fun hT1 => WC.rowIs (mAt 5 rfl) fun hB1 => ?_
      have hT2 := cut_one (k := n) hT1
      have hB2 := cut_one (k := l) hB1
      ((repeat' (first |  (apply WC.drawTail (id := 8) 13; kernel_rfl; kernel_rfl; simp only [List.take_succ_cons, List.take_zero, List.drop_succ_cons, List.drop_zero]) |  (apply WC.drawTail (id := 10) 11; kernel_rfl; kernel_rfl; simp only [List.take_succ_cons, List.take_zero, List.drop_succ_cons, List.drop_zero]) | ((first | apply WL.opN | apply WD.opN); exact yF; dsimp only [setD, z0, z1]) | refine WL.nil ?_ | refine WD.nil ?_ | refine WC.seqK fun Kx hK => ?_ | (refine hK _ _ ?_; clear hK) | (refine Kont.skip ?_; clear hK) | refine WC.region ?_ |  (refine WL.ofSW (SW.at 0 rfl fun q => SW.storeS tySi (OpD.t rfl) (OpD.t rfl) (shape_X hT2) (by simp)) fun _ => ?_; dsimp only [setD, z0, z1]; refine WL.swap 4 rfl (fun q h => WL.cutR hnt h) ?_; dsimp only [z0, z1]) |  (refine WL.ofSW (SW.at 0 rfl fun q => SW.storeS tySi (OpD.t rfl) (OpD.t rfl) (shape_X hB2) (by simp)) fun _ => ?_; dsimp only [setD, z0, z1]; refine WL.swap 5 rfl (fun q h => WL.cutR (Nat.le_of_lt hlb) h) ?_; dsimp only [z0, z1]) |  (refine WL.ofSW (SW.at 0 rfl fun q => SW.storeS tyI (OpD.t rfl) (OpD.t rfl) shape_I (by simp)) fun _ => ?_; dsimp only [setD, z0, z1]) | ((first | apply WL.opN | apply WD.opN); (focus ((first | (exact SY.nilCk (OpD.t rfl)) | (refine SY.fldS strS (OpD.t rfl) (by decide)) | (apply SY.loadS; (first | exact tyI | exact tySi | exact tyF | exact tyFL); exact OpD.t rfl; exact mAt 0 rfl; rfl) | (exact SY.ixR elI (OpD.t rfl) (mAt 5 rfl) (OpD.t rfl) rfl hlb) | (exact SY.loadR tyI (OpD.t rfl) (mAt 5 rfl) hlb) | (exact SY.uptoR elI (OpD.t rfl) (mAt 4 rfl) (OpD.t rfl) hni hnt) | (exact SY.uptoR elI (OpD.t rfl) (mAt 5 rfl) (OpD.t rfl) rfl (Nat.le_of_lt hlb)) | (apply SY.lenR; exact OpD.t rfl; exact mAt 4 rfl; exact elI.unt) | (exact hmin ▸ SY.minI (OpD.t rfl) (OpD.t rfl)) | ((first | apply SY.move | apply SY.assign | apply SY.lss | apply SY.geq) <;> (exact oD)) | fail); all_goals infer_instance)); dsimp only [setD, z0, z1]) | (apply WC.condD; (exact oD); all_goals (intro h; try exact xD)) | refine WC.exit ?_)); all_goals (first | ((repeat clear hK); (repeat clear Kx))))
      all_goals try (exfalso; first | contradiction | omega)
      have eb : backS s l = { s with val := delV s.val (s.trail.drop n), lev := delL s.lev (s.trail.drop n), rea := delR s.rea (s.trail.drop n), trail := s.trail.take n, begins := s.begins.take l, head := min s.head n } := by
        unfold backS
        rw [if_neg hl, hg]
        rfl
      rw [eb, ints_take]
      exact ⟨trivial, core { X with vT := cutV X.vT n, vB := cutV X.vB l } V { s with val := delV s.val (s.trail.drop n), lev := delL s.lev (s.trail.drop n), rea := delR s.rea (s.trail.drop n), trail := s.trail.take n, begins := s.begins.take l, head := min s.head n }, rfl, _, _, rfl⟩
end Go.Proofs.Ytpiidgcljlalmaa
