/- Part 33: walks by contracts, and plain laws. -/
import Derived.Shelf.SlSortCmp.NoneTotal
import Derived.Test.YtjmignmnlpamjaaGreatVa28
set_option linter.unusedVariables false
set_option linter.unusedSimpArgs false
set_option linter.unusedSectionVars false
set_option maxRecDepth 100000
set_option maxHeartbeats 4000000
namespace Go.Proofs.YtjmignmnlpamjaaGreat
section
open Go.RowKit
open S43 (SS LS up ZAx CInv)
theorem ZNf {K S L B c7 c8 c6 O G V R T : HObj} {hp : List HObj} : (K :: S :: L :: B :: c7 :: c8 :: c6 :: O :: G :: V :: R :: T :: hp).Perm ([K, c7, c8, c6, G] ++ (O :: S :: V :: L :: R :: T :: B :: hp)) :=
 ZKo.symm.trans (List.Perm.append_right (S :: V :: L :: R :: T :: B :: hp) (l₁ := [c8, c7, G, O, c6, K]) (l₂ := [K, c7, c8, c6, G, O])
  ((ZAQ (i := 5) rfl).trans (List.Perm.cons _ ((ZAQ (i := 1) rfl).trans (List.Perm.cons _ (List.Perm.cons _ ((ZAQ (i := 2) rfl).trans (List.Perm.refl _))))))))
theorem ZNS (X : Lay) (V : Nat) (s : SS) (k : Nat) (hV : V ≤ 100000) (hC : CInv V s k) (hb : s.begins ≠ []) (hs : s.list.length ≤ 1000000000000) :
  CallC Tryz.prog 73 ([dX (ZDZ X), dI (k : Int)] ++ ([] : List Value).map dX) (ZCR X V s) (fun d hp2 => ∃ v, d = dT [dX v, dI (((ZAx s k).2 : Nat) : Int)] /\ hp2 = ZS v tI RI (ZAx s k).1 :: ZCR X V s) := by
 refine ZEV (ZNT X V s k hV hC hb hs) fun d hp2 ⟨v, v2, b6, b7, b8, bm, t, h1, h2, h3⟩ => ?_
 subst h3
 refine ⟨[ZHN X v2, ZAB b7 101 1 false (dX (.map (some bm))), ZAB b8 tI 1 false (dI (t.opn : Int)), ZAB b6 25 1 false (dX v), hG bm kvI ZAF vvB (ZDq t.seen)], ZS v tI RI t.out :: ZCR X V s, ?_, v, h2, by rw [h1]⟩
 unfold ZCR
 simp only [core, lrO, List.cons_append, List.nil_append, List.append_nil]
 exact ZNf
end
end Go.Proofs.YtjmignmnlpamjaaGreat
namespace Go.Proofs
section
open Go.Shelf
def Tryz.sortI_ren : Go.Shelf.Ren := ⟨fun | 6 => 103 | 15 => 120 | 14 => 119 | 28 => 132 | 29 => 133 | 20 => 124 | 21 => 125 | 22 => 126 | 23 => 127 | 24 => 128 | 25 => 129 | 26 => 130 | 27 => 131 | 46 => 144 | 47 => 145 | 48 => 146 | 49 => 147 | 50 => 148 | 57 => 153 | n => n, fun | 22 => 25 | 24 => 3 | 25 => 132 | 3 => 3 | 39 => 128 | 0 => 0 | 53 => 140 | 55 => 143 | 4 => 4 | 46 => 153 | 45 => 152 | 50 => 120 | 5 => 5 | 9 => 9 | 66 => 165 | 70 => 169 | 76 => 173 | 77 => 174 | n => n, fun | n => n⟩
theorem Tryz.sortI : Go.Proofs.SlLaysF.n6 Tryz.prog Tryz.sortI_ren := {
 mixed := by kernel_rfl
 f6 := ⟨Tryz.f103.name, by decide, Tryz.func103.trans (congrArg some (by kernel_rfl))⟩
 f14 := ⟨Tryz.f119.name, by decide, Tryz.func119.trans (congrArg some (by kernel_rfl))⟩
 f15 := Tryz.func120.trans (congrArg some (by kernel_rfl))
 f20 := ⟨Tryz.f124.name, by decide, Tryz.func124.trans (congrArg some (by kernel_rfl))⟩
 f21 := ⟨Tryz.f125.name, by decide, Tryz.func125.trans (congrArg some (by kernel_rfl))⟩
 f22 := ⟨Tryz.f126.name, by decide, Tryz.func126.trans (congrArg some (by kernel_rfl))⟩
 f23 := ⟨Tryz.f127.name, by decide, Tryz.func127.trans (congrArg some (by kernel_rfl))⟩
 f24 := ⟨Tryz.f128.name, by decide, Tryz.func128.trans (congrArg some (by kernel_rfl))⟩
 f25 := ⟨Tryz.f129.name, by decide, Tryz.func129.trans (congrArg some (by kernel_rfl))⟩
 f26 := ⟨Tryz.f130.name, by decide, Tryz.func130.trans (congrArg some (by kernel_rfl))⟩
 f27 := ⟨Tryz.f131.name, by decide, Tryz.func131.trans (congrArg some (by kernel_rfl))⟩
 f28 := Tryz.func132.trans (congrArg some (by kernel_rfl))
 f29 := Tryz.func133.trans (congrArg some (by kernel_rfl))
 f46 := ⟨Tryz.f144.name, by decide, Tryz.func144.trans (congrArg some (by kernel_rfl))⟩
 f47 := Tryz.func145.trans (congrArg some (by kernel_rfl))
 f48 := Tryz.func146.trans (congrArg some (by kernel_rfl))
 f49 := ⟨Tryz.f147.name, by decide, Tryz.func147.trans (congrArg some (by kernel_rfl))⟩
 f50 := ⟨Tryz.f148.name, by decide, Tryz.func148.trans (congrArg some (by kernel_rfl))⟩
 f57 := ⟨Tryz.f153.name, by decide, Tryz.func153.trans (congrArg some (by kernel_rfl))⟩
 t0 := Tryz.underlying0
 a0 := Tryz.isAgg0
 z0 := Tryz.sizeOf0
 v0 := Tryz.zeroValue0
 t3 := Tryz.underlying3
 a3 := Tryz.isAgg3
 z3 := Tryz.sizeOf3
 v3 := Tryz.zeroValue3
 t4 := Tryz.underlying4
 a4 := Tryz.isAgg4
 z4 := Tryz.sizeOf4
 v4 := Tryz.zeroValue4
 t5 := Tryz.underlying5
 a5 := Tryz.isAgg5
 z5 := Tryz.sizeOf5
 v5 := Tryz.zeroValue5
 t9 := Tryz.underlying9
 a9 := Tryz.isAgg9
 z9 := Tryz.sizeOf9
 v9 := Tryz.zeroValue9
 t22 := Tryz.underlying25
 a22 := Tryz.isAgg25
 z22 := Tryz.sizeOf25
 v22 := Tryz.zeroValue25
 a24 := Tryz.isAgg3
 z24 := Tryz.sizeOf3
 t25 := Tryz.underlying132
 a25 := Tryz.isAgg132
 z25 := Tryz.sizeOf132
 v25 := Tryz.zeroValue132
 t39 := Tryz.underlying128
 a39 := Tryz.isAgg128
 z39 := Tryz.sizeOf128
 v39 := Tryz.zeroValue128
 t45 := Tryz.underlying152
 a45 := Tryz.isAgg152
 z45 := Tryz.sizeOf152
 v45 := Tryz.zeroValue152
 t46 := Tryz.underlying153
 a46 := Tryz.isAgg153
 z46 := Tryz.sizeOf153
 v46 := Tryz.zeroValue153
 t50 := Tryz.underlying120
 a50 := Tryz.isAgg120
 z50 := Tryz.sizeOf120
 v50 := Tryz.zeroValue120
 t53 := Tryz.underlying140
 a53 := Tryz.isAgg140
 z53 := Tryz.sizeOf140
 v53 := Tryz.zeroValue140
 t55 := Tryz.underlying143
 a55 := Tryz.isAgg143
 z55 := Tryz.sizeOf143
 v55 := Tryz.zeroValue143
 t66 := Tryz.underlying165
 a66 := Tryz.isAgg165
 z66 := Tryz.sizeOf165
 v66 := Tryz.zeroValue165
 t70 := Tryz.underlying169
 a70 := Tryz.isAgg169
 z70 := Tryz.sizeOf169
 v70 := Tryz.zeroValue169
 t76 := Tryz.underlying173
 a76 := Tryz.isAgg173
 z76 := Tryz.sizeOf173
 v76 := Tryz.zeroValue173
 t77 := Tryz.underlying174
 a77 := Tryz.isAgg174
 z77 := Tryz.sizeOf174
 v77 := Tryz.zeroValue174 }
end
end Go.Proofs
namespace Go.Proofs.YtjmignmnlpamjaaGreat
section
open Go.RowKit Go.Sort Go.Shelf
section
variable {w : World} {g n cap : Nat} {os : Array Obj} {cur : Array Value} {e : TypeId} {fz : Nat × Nat} {α : Type} [Inhabited α] {enc : α -> Value}
theorem ZEl (d : Array α) : w.grownBy (sortWorld enc w g 0 n d os) (some g) := by
 refine ⟨rfl, rfl, rfl, by simp [sortWorld], fun k hk hne => ?_⟩
 unfold sortWorld
 rw [heap_grow_old _ _ (by simpa using hk)]
 have : g ≠ k := fun e => hne (by rw [e])
 simp [putRow, mapBlock, Sort.ahead, Array.getElem?_modify, this]
theorem ZGr (d : Array α) (hb : w.heap[g]? = some (.cells cur e fz)) :
  (sortWorld enc w g 0 n d os).heap[g]? = some (.cells (putCells enc 0 d cur) e fz) := by
 have hg : g < w.heap.size := (Array.getElem?_eq_some_iff.1 hb).1
 unfold sortWorld
 rw [heap_grow_old _ _ (by simpa using hg)]
 simp [putRow, mapBlock, Sort.ahead, Array.getElem?_modify, hb, onCells]
theorem ZF3 {d : Array α} (hb : w.heap[g]? = some (.cells cur e (0, 0))) (ht : cur.toList.take d.size = d.toList.map enc) : Holds enc w g 0 d := by
 intro j hj
 refine ⟨?_, by simp [World.frozen?, hb]⟩
 have h1 : (cur.toList.take d.size)[j]? = (d.toList.map enc)[j]? := by rw [ht]
 rw [List.getElem?_take_of_lt hj] at h1
 simp only [World.cell?, hb, Nat.zero_add]
 simp only [Option.isSome_none, Bool.false_eq_true, if_false]
 rw [<- Array.getElem?_toList, h1, getElem!_pos _ j hj]
 simp [hj]
theorem ZFM (cur : Array Value) (d : Array α) (h : d.size ≤ cur.size) : (putCells enc 0 d cur).toList.take d.size = d.toList.map enc := by
 apply List.ext_getElem?
 intro j
 by_cases hj : j < d.size
 ·rw [List.getElem?_take_of_lt hj, Array.getElem?_toList]
  simp [putCells, hj, show j < cur.size by omega]
 ·rw [List.getElem?_take_eq_none (by omega), List.getElem?_eq_none (by simp; omega)]
end
theorem var_x (x : Int) (hx : x.natAbs ≤ 1000000) (w : World) : Calls Tryz.prog 100 #[.int .i64 x] w fun e w' => e = .returned (.int .i64 (x.natAbs : Int)) /\ w' = w := by
 go_enter Tryz.func100, Tryz.ntmps100
 go_wp2
 all_goals (go_ret; refine ⟨ZBf ?_, rfl⟩)
 all_goals omega
theorem ord_x (x y : Int) (hx : x.natAbs ≤ 1000000) (hy : y.natAbs ≤ 1000000) (w : World) : Calls Tryz.prog 104 #[.int .i64 x, .int .i64 y] w fun e w' => e = .returned (.int .i64 ((x.natAbs : Int) - (y.natAbs : Int))) /\ ∃ q, w' = w.drewN q := by
 go_enter Tryz.func104, Tryz.ntmps104
 go_wp2_with (first | (go_at_call 100; refine (var_x _ (by assumption) _).mono ?_; rintro e w1 ⟨rfl, rfl⟩))
 all_goals (go_ret; refine ⟨ZBf ?_, 0, rfl⟩)
 all_goals omega
theorem swoI {α : Type} {f : α -> Int} : SWO (ltOf fun x y : α => f x - f y) where
 irrefl x := by simp [ltOf]
 trans x y z h h' := by
  simp only [ltOf, decide_eq_true_eq] at *
  omega
 ntrans x y z h h' := by
  simp only [ltOf, decide_eq_false_iff_not] at *
  omega
section
variable {ops : Array Oper} {hp : List HObj} {fr : List Dat} {Q : ZAb} {rest : List Oper} {dst : Option Tmp} {ty : TypeId} {ps : String} {af : Array Edge}
theorem ZLU {x : Operand} {v : Value} {e : TypeId} {xs : List Int} {ats : Array TypeId} (hx : OpD fr x (dX v)) (hlen : xs.length < 4611686018427387904) (hxs : ∀ x ∈ xs, x.natAbs ≤ 1000000)
  (h : ∀ ys : List Int, ys.Perm xs -> Srt ys -> WL Tryz.prog ops Q rest (ZB fr dst dA) (ZS v e RI ys :: hp)) :
  WL Tryz.prog ops Q (⟨dst, .call { callee := .value (.func 103), args := #[x, .func 104], argTypes := ats }, ty, ps, af, none⟩ :: rest) fr (ZS v e RI xs :: hp) := by
 refine WL.of fun P0 B w0 w a hh hf => ?_
 have hok := hh.ok (ZS v e RI xs) (by simp)
 obtain ⟨us, h1, h2, h3⟩ := hok
 have hev : a.eval x = v := hx.ev hf
 obtain ⟨hfl, hv⟩ := h2
 have hrun : (execOp a.eval ⟨dst, .call { callee := .value (.func 103), args := #[x, .func 104], argTypes := ats }, ty, ps, af, none⟩).run Tryz.prog w = .ok (.enter 103 #[v, .func (.func 104) #[] #[]]) w := by
  unfold execOp
  simp only [resolve]
  have he : (#[x, Operand.func 104] : Array Operand).map a.eval = #[v, .func (.func 104) #[] #[]] := by simp [hev]; rfl
  rw [he]
  simp [Act.eval, Deferred.ofValue, invoke, Tryz.call103]
 by_cases hne : xs = []
 ·subst hne
  have hv0 : ∃ p cap, v = .slice p 0 cap := by
   rcases hv with ⟨hv, _⟩ | ⟨g, cap, cur, hv, _⟩
   ·exact ⟨_, _, hv⟩
   ·exact ⟨_, _, hv⟩
  obtain ⟨p, cap, hv0⟩ := hv0
  have hcon := AnyF.slices_SortFunc_none (P := Tryz.prog) (ρ := Tryz.sortI_ren) { Tryz.sortI with } p cap (.func (.func 104) #[] #[]) w
  change Calls Tryz.prog 103 _ _ _ at hcon
  refine wpList_plain rfl fun K hK => ?_
  unfold Oper.wp
  rw [hrun, hv0]
  refine hcon.mono fun e' w' ⟨he, hw'⟩ => ?_
  subst he
  subst hw'
  exact hK _ _ ((h [] (List.Perm.refl _) List.Pairwise.nil).on hh (hf.put (d := dA) trivial))
 have hpos : 0 < xs.length := List.length_pos_iff.2 hne
 rcases hv with ⟨_, hz⟩ | ⟨g, cap, cur, hv, hB, hg, hc1, hc2, hc3, hc4⟩
 ·omega
 have hgb : g < w.heap.size := (Array.getElem?_eq_some_iff.1 hg).1
 let α := {p : Int // p.natAbs ≤ 1000000}
 haveI : Inhabited α := ⟨⟨0, by decide⟩⟩
 let at0 : Fin xs.length -> α := fun k => ⟨xs[k.1], hxs _ (List.getElem_mem _)⟩
 let enc : α -> Value := fun p => .int .i64 p.1
 let d : Array α := (List.ofFn at0).toArray
 have hds : d.size = xs.length := by simp [d]
 have hus : us = xs.map fun x => Value.int .i64 x := by
  apply List.ext_getElem (by simp [h1])
  intro k a b
  rw [List.getElem_map]
  exact (h3 k a (by simpa using b)).2
 have hdx : d.toList.map (fun p => p.1) = xs := by
  apply List.ext_getElem (by simp [d])
  intro k a b
  simp [d, at0]
 have hdu : d.toList.map enc = us := by
  rw [hus]
  have : d.toList.map enc = (d.toList.map (fun p => p.1)).map fun x => Value.int .i64 x := by rw [List.map_map]; rfl
  rw [this, hdx]
 have hown : v.ownBlock = some g := by rw [hv]; rfl
 have hH : Holds enc w g 0 d := ZF3 hg (by rw [hds, hdu]; simpa using hc4)
 have hgr : ∀ (d' : Array α) (n : Nat) (os : Array Obj), w.grownBy (sortWorld enc w g 0 n d' os) (ZS v e RI xs).blk := fun d' n os => by
  show w.grownBy _ v.ownBlock
  rw [hown]; exact ZEl d'
 have hcon := Any.slices_SortFunc Tryz.sortI enc (fun p => rfl) (fun p q => ((p.1.natAbs : Int) - (q.1.natAbs : Int))) swoI 104 #[] g 0 cap d w Tryz.call104
  (fun m os dk _ p q => (ord_x p.1 q.1 p.2 q.2 _).mono fun e' w' ⟨he, q, hq⟩ => ⟨he, q, #[], by rw [hq, grow_empty]⟩) hH hgb (by rw [hds]; exact hlen)
 change Calls Tryz.prog 103 _ _ _ at hcon
 refine wpList_plain rfl fun K hK => ?_
 unfold Oper.wp
 rw [hrun]
 have hva : v = .slice (some ⟨g, 0, none⟩) d.size cap := by rw [hds]; exact hv
 rw [<- hva] at hcon
 refine hcon.mono fun e' w' ⟨he, d', n, os, hp1, hs, hw'⟩ => ?_
 subst he
 subst hw'
 obtain ⟨q1, _, q3⟩ := hp1
 have hperm : d'.toList.Perm d.toList := by
  have e1 : d'.extract 0 d.size = d' := by rw [<- q1]; simp
  have e2 : d.extract 0 d.size = d := by simp
  rw [e1, e2] at q3
  exact q3
 have hys : (d'.toList.map fun p => p.1).Perm xs := by
  have := hperm.map (fun p : α => p.1)
  rwa [hdx] at this
 have hsort : Srt (d'.toList.map fun p => p.1) := by
  unfold Srt
  rw [List.pairwise_map, List.pairwise_iff_getElem]
  intro i j hi hj hij
  have hi' : i < d'.size := by simpa using hi
  have hj' : j < d'.size := by simpa using hj
  have := hs i j (Nat.zero_le _) hij (by omega)
  rw [getElem!_pos d' i hi', getElem!_pos d' j hj'] at this
  simp only [ltOf, decide_eq_false_iff_not] at this
  simp only [Array.getElem_toList]
  omega
 have hlen' : (d'.toList.map fun p => p.1).length = xs.length := by simp; omega
 have hok : (ZS v e RI (d'.toList.map fun p => p.1)).ok (fun k => Imm P0 B (ZS v e RI xs :: hp) k /\ k < w.heap.size) (sortWorld enc w g 0 n d' os) := by
  refine ⟨d'.toList.map enc, by simp, ⟨by simp, .inr ⟨g, cap, putCells enc 0 d' cur, ?_, hB, ZGr _ hg, by omega, hc2, by simp [putCells, hc3], ?_⟩⟩, fun k a b => ?_⟩
  ·rw [hlen']; exact hv
  ·rw [hlen', Nat.mul_one, <- hds, <- q1]
   exact ZFM _ _ (by rw [q1, hds, hc3]; omega)
  ·exact ⟨by rw [List.getElem_map]; rfl, by rw [List.getElem_map, List.getElem_map]; rfl⟩
 exact hK _ _ ((h _ hys hsort).on (hh.write (hgr d' n os) (.inl rfl) hok) (Fr.put (hf.mono fun _ _ hd => Z9 (o' := ZS v e RI (d'.toList.map fun p => p.1)) (hgr d' n os) (.inl rfl) hd) (d := dA) trivial))
end
end
section
open Go.RowKit
theorem ZKc (z : Value) (n : Nat) : (madeCells #[z] n).toList = List.replicate n z := by
 unfold madeCells
 apply List.ext_getElem (by simp)
 intro i h1 h2
 simp [Nat.mod_one]
section
variable {P : Program} {ops : Array Oper} {hp : List HObj} {fr : List Dat} {d : Dat} {Q : ZAb} {rest : List Oper}
variable {dst : Option Tmp} {ty : TypeId} {ps : String} {af : Array Edge} {bytes : Nat} {e t : TypeId}
theorem ZH7 {n : Nat} {j : Int} {y y' : Operand} (E : ElT P t e 1 (.int .i64 0) bytes false) (hy : OpD fr y (dI j)) (hy' : OpD fr y' (dI j)) (hj : j = (n : Int)) (hb : bytes * n ≤ 281474976710656) (hm : n ≤ 1000000000) (h : ∀ v, WL P ops Q rest (ZB fr dst (dX v)) (ZS v e RI (List.replicate n (0 : Int)) :: hp)) :
  WL P ops Q (⟨dst, .makeSlice t y y', ty, ps, af, none⟩ :: rest) fr hp := by
 refine WL.of fun P0 B w0 w a hh hf => ?_
 have h1 : a.eval y = .int .i64 n := by rw [<- hj]; exact hy.ev hf
 have h2 : a.eval y' = .int .i64 n := by rw [<- hj]; exact hy'.ev hf
 have hr := run_make_row' (P := P) t e (.int .i64 0) bytes E.und E.info rfl .i64 .i64 n hb (by omega) w
 refine Z6 rfl (v := .slice (some ⟨w.heap.size, 0, none⟩) n n) (w' := w.alloc (.cells (madeCells #[.int .i64 0] n) e)) ?_ ?_
 ·unfold execOp
  simp only [h1, h2, Sem.run_bind, hr, Result.andThen_ok, Sem.run_pure]
 have hx := ZF w (.cells (madeCells #[.int .i64 0] n) e)
 have hb' : ∀ q, (ZS (.slice (some ⟨w.heap.size, 0, none⟩) n n) e RI (List.replicate n (0 : Int))).blk = some q -> w.heap.size ≤ q /\ q < (w.alloc (.cells (madeCells #[.int .i64 0] n) e)).heap.size := fun q hq => by
  cases hq
  exact ⟨Nat.le_refl _, by simp⟩
 refine (h _).on (hh.push hx hb' ?_) (Fr.put (hf.mono fun d _ hd => ZAZ hx (fun k hk => (hb' k hk).1) hd) rfl)
 refine ⟨List.replicate n (.int .i64 0), by simp, ⟨by simp, .inr ⟨w.heap.size, n, madeCells #[.int .i64 0] n, by simp, Nat.zero_le _, ZAT w _, by simp, by simp only [maxLen]; omega, by simp [size_madeCells], ?_⟩⟩, fun k a b => ?_⟩
 ·rw [ZKc, List.length_replicate, Nat.mul_one, List.take_of_length_le (by simp)]
 ·simp only [List.getElem_replicate]
  exact ⟨rfl, rfl⟩
end
end
section
open Go.RowKit
open S43 (SS up)
theorem ZId {P : Program} {f : FuncId} {ds : List Dat} {hp1 : List HObj} {e : TypeId} {α : Type} {R : Rel α} {_gR : Good R} {p : List α -> Prop} (h : CallC P f ds hp1 fun d hp2 => ∃ v ys, p ys /\ d = dX v /\ hp2 = [ZS v e R ys]) : CallC P f ds hp1 fun d hp2 => ∃ ys : {ys : List α // p ys}, d = dS (Arr R) ys.1 /\ hp2 = [] := ⟨fun P0 B w0 hp vs W hh hl hv => by
 refine Calls.mono (h.out P0 B w0 hp vs W hh hl hv) fun e' W' ⟨v, d, hp2, he, hk, hh2, hd⟩ => ?_
 obtain ⟨u, ys, hp, rfl, rfl⟩ := hk
 have hvu : v = u := hd
 refine ⟨v, _, _, he, ⟨⟨ys, hp⟩, rfl, rfl⟩, hh2.drop, ?_⟩
 rw [hvu]
 exact ZBv hh2⟩
theorem ZKk (xs : List Int) (hl : xs.length ≤ 1000000) (hx : ∀ x ∈ xs, x.natAbs ≤ 1000000) : CallC Tryz.prog 74 ([dS ZW xs] ++ ([] : List Value).map dX) [] fun d hp2 => ∃ ys : {ys : List Int // ys.Perm xs /\ Srt ys}, d = dS ZW ys.1 /\ hp2 = [] := by
 refine ZId (e := tI) (R := RI) (_gR := inferInstance) ?_
 (refine Zo Tryz.func74 rfl rfl (fun hp => ?_); simp only [Tryz.ntmps74, List.length_cons, List.length_nil, List.length_append, List.length_map, Nat.reduceAdd, Nat.reduceSub, List.replicate_succ, List.replicate_zero, List.cons_append, List.nil_append, List.map_cons, List.map_nil, List.append_assoc])
 ((repeat' (first | (apply WL.opN; exact yF; dsimp only [ZB, z0, z1]) | refine WL.nil ?_ | refine ZA fun Kx hK => ?_ | (refine hK _ _ ?_; clear hK) | refine WC.region ?_ |  (refine WL.callC (hp1 := []) (caps := []) (ZDk xs hl) Tryz.call45 OpD.f (by (exact aD)) ?_; rintro d' hp2 ⟨v, rfl, rfl⟩; dsimp only [ZB, z0, z1, List.cons_append, List.nil_append]) |  (refine ZLU (OpD.t rfl) (by omega) hx fun ys hys hso => ?_; dsimp only [ZB, z0, z1]) | refine WC.ret ?_)); all_goals (first | ((repeat clear hK); (repeat clear Kx))))
 exact ⟨trivial, _, [_], rfl, rfl, _, ys, ⟨hys, hso⟩, rfl, rfl⟩
theorem ZNb (X : Lay) (V : Nat) (s : SS) (hV : V ≤ 1000000) (hs : ∀ x ∈ s.trail, x ≠ 0 /\ x.natAbs ≤ V) (ht : s.trail.length ≤ 1000000) :
  CallC Tryz.prog 77 ([dX (ZDZ X)] ++ ([] : List Value).map dX) (core X V s) (fun d hp2 => ∃ v, d = dX v /\ hp2 = ZS v tI RI (ZBz V s.trail) :: core X V s) := by
 (refine Zo Tryz.func77 rfl rfl (fun hp => ?_); simp only [Tryz.ntmps77, List.length_cons, List.length_nil, List.length_append, List.length_map, Nat.reduceAdd, Nat.reduceSub, List.replicate_succ, List.replicate_zero, List.cons_append, List.nil_append, List.map_cons, List.map_nil, List.append_assoc])
 have h8 : 8 * V ≤ 281474976710656 := by omega
 (repeat' (first | (apply WL.opN; exact yF; dsimp only [ZB, z0, z1]) | refine WL.nil ?_ | refine ZA fun Kx hK => ?_ | (refine hK _ _ ?_; clear hK) | refine WC.region ?_ |  (refine ZH7 elI (OpD.t rfl) (OpD.t rfl) rfl h8 (by omega) fun v => ?_; dsimp only [ZB, z0, z1]) | (apply WL.opN; (focus ((first | (exact ZH (OpD.t rfl)) | (refine ZM ZAz (OpD.t rfl) (by decide)) | (apply ZI; (first | exact tyI | exact ZAl); exact OpD.t rfl; (first | exact mAt 0 rfl | exact mAt 1 rfl); rfl) | (apply Z3; exact OpD.t rfl; exact mAt 5 rfl; exact elI.unt) | fail); all_goals infer_instance)); dsimp only [ZB, z0, z1]) | refine WC.block ?_))
 (refine ZP (X := Nat) (fun i => [(16, dI (i : Int)), (5, dA), (17, dA), (18, dA), (19, dA), (20, dA), (21, dA), (22, dA), (23, dA), (24, dA), (25, dA), (26, dA)]) (fun i => (ZS v tI RI (ZBz V (s.trail.take i)) :: oS X V s :: oV X s :: oL X s :: oR X s :: oT X s :: oB X s :: hp)) (fun i => s.trail.length - i) (fun i => i ≤ s.trail.length) 0 ?start ?frame0 ?objs0 ?round)
 case start => exact Nat.zero_le _
 case frame0 => ((try dsimp only [ZX, z0, z1]); repeat (first | exact LeF.nil | refine ZG (k := ?_)))
 case objs0 => rfl
 case round =>
  rintro i hi
  dsimp only [ZX, z0, z1]
  by_cases hin : i < s.trail.length
  ·have hle : (i : Int) < (s.trail.length : Int) := by omega
   obtain ⟨hx0, hxV⟩ := hs _ (List.getElem_mem hin)
   have hvx := ZAa s.trail[i] (by omega)
   have hk : (s.trail[i]).natAbs - 1 < (ZBz V (s.trail.take i)).length := by rw [ZEv]; omega
   have hc : (((s.trail[i]).natAbs : Nat) : Int) - 1 = (((s.trail[i]).natAbs - 1 : Nat) : Int) := by omega
   have et := ZI5 (V := V) hin
   ((repeat' (first | (apply WL.opN; exact yF; dsimp only [ZB, z0, z1]) | refine WL.nil ?_ | refine ZA fun Kx hK => ?_ | (refine hK _ _ ?_; clear hK) | refine WC.region ?_ |  (refine ZK (SW.at 0 rfl fun q => SW.storeR tyI (OpD.t rfl) (OpD.t rfl) Zf hk) fun _ => ?_; dsimp only [ZB, z0, z1]) | (apply WL.opN; (focus ((first | (apply SY.call (hvx) Tryz.call100; (exact aD)) | (exact Zr elI (OpD.t rfl) (mAt 5 rfl) (OpD.t rfl) rfl hin) | (exact ZAd tyI (OpD.t rfl) (mAt 5 rfl) hin) | (exact Zr elI (OpD.t rfl) (mAt 0 rfl) (OpD.t rfl) hc hk) | ((first | apply SY.move | apply SY.assign | apply SY.lss) <;> (exact oD)) | ((first | apply SY.add | apply SY.sub) <;> first | exact oD | omega) | fail); all_goals infer_instance)); dsimp only [ZB, z0, z1]) | (apply ZC; (exact oD); all_goals (intro h; try exact xD)) | refine WC.skip ?_ | refine WC.block ?_ | refine ThenD.n ?_)); all_goals (first | ((repeat clear hK); (repeat clear Kx))))
   all_goals try (exfalso; first | contradiction | omega)
   rw [<- et]
   (refine ⟨i + 1, ?_, by first | omega | (simp only; omega), rfl, ?_⟩; rotate_left; ((try dsimp only [ZX, z0, z1]); repeat (first | exact LeF.nil | refine ZG (k := ?_))); (try dsimp only))
   omega
  ·have hle : ¬ (i : Int) < (s.trail.length : Int) := by omega
   obtain rfl : i = s.trail.length := by omega
   rw [List.take_length]
   ((repeat' (first | (apply WL.opN; exact yF; dsimp only [ZB, z0, z1]) | refine WL.nil ?_ | refine ZA fun Kx hK => ?_ | (refine hK _ _ ?_; clear hK) | (refine Kont.skip ?_; clear hK) | refine WC.region ?_ | (apply WL.opN; (focus ((first | ((first | apply SY.move | apply SY.assign | apply SY.lss) <;> (exact oD)) | fail); all_goals infer_instance)); dsimp only [ZB, z0, z1]) | (apply ZC; (exact oD); all_goals (intro h; try exact xD)) | refine WC.ret ?_ | refine WC.exit ?_)); all_goals (first | ((repeat clear hK); (repeat clear Kx))))
   all_goals try (exfalso; first | contradiction | omega)
   exact ⟨trivial, _, ZS v tI RI (ZBz V s.trail) :: core X V s, rfl, rfl, v, rfl, rfl⟩
end
section
open Go.RowKit
open S43 (SS up Zz)
set_option maxHeartbeats 8000000 in
theorem ZNy (hp : List HObj) {gc : Code} (hgb : Tryz.f71.body = some gc) (X : Lay) (V : Nat) (s : SS) (l : Nat) (hl0 : l ≤ 1000000) (hs : ∀ x ∈ s.trail, x.natAbs ≤ 1000000) (hb : ∀ b ∈ s.begins, b ≤ s.trail.length) (ht : s.trail.length ≤ 1000000) (hbl : s.begins.length ≤ 1000000) :
  WC Tryz.prog (ZNK (fun _ hp2 => ∃ v v', hp2 = core { X with vT := v, vB := v' } V (Zz s l)) hp) gc ([dX (ZDZ X), dI (l : Int)] ++ List.replicate (Tryz.f71.ntmps - 2) (dX undef)) (core X V s ++ hp) := by
 -- @kinds (*solver.search).back
 have hgc := Option.some.inj (show some _ = some gc from hgb)
 subst hgc
 simp only [Tryz.ntmps71, List.length_cons, List.length_nil, List.length_append, List.length_map, Nat.reduceAdd, Nat.reduceSub, List.replicate_succ, List.replicate_zero, List.cons_append, List.nil_append, List.map_cons, List.map_nil, List.append_assoc]
 have e1 : (ZAj s.begins).length = s.begins.length := ZAW _
 by_cases hl : s.begins.length ≤ l
 ·have hlt : (l : Int) ≥ ((ZAj s.begins).length : Int) := by rw [e1]; omega
  have e0 : Zz s l = s := if_pos hl
  ((repeat' (first | ((first | apply WL.opN | apply WD.opN); exact yF; dsimp only [ZB, z0, z1]) | refine WL.nil ?_ | refine ZA fun Kx hK => ?_ | (refine hK _ _ ?_; clear hK) | refine WC.region ?_ | ((first | apply WL.opN | apply WD.opN); (focus ((first | (exact ZH (OpD.t rfl)) | (refine ZM ZAz (OpD.t rfl) (by decide)) | (apply ZI; (first | exact tyI | exact ZAl | exact tyF | exact ZBi); exact OpD.t rfl; exact mAt 0 rfl; rfl) | (apply Z3; exact OpD.t rfl; exact mAt 5 rfl; exact elI.unt) | ((first | apply SY.move | apply SY.assign | apply SY.lss | apply SY.geq) <;> (exact oD)) | fail); all_goals infer_instance)); dsimp only [ZB, z0, z1]) | (apply ZC; (exact oD); all_goals (intro h; try exact xD)) | refine WC.ret ?_ | refine ThenD.r ?_)); all_goals (first | ((repeat clear hK); (repeat clear Kx))))
  all_goals try (exfalso; omega)
  rw [e0]
  exact ⟨trivial, core { X with vT := X.vT, vB := X.vB } V s, rfl, X.vT, X.vB, rfl⟩
 have hlb : l < (ZAj s.begins).length := by omega
 obtain ⟨n, hn⟩ : ∃ n, s.begins[l]'(by omega) = n := ⟨_, rfl⟩
 have hni : (ZAj s.begins)[l] = (n : Int) := by rw [ZF5, hn]
 have hnt : n ≤ s.trail.length := by rw [<- hn]; exact hb _ (List.getElem_mem _)
 have hg : s.begins.getD l 0 = n := by rw [List.getD_eq_getElem?_getD, List.getElem?_eq_getElem (by omega), Option.getD_some, hn]
 have hmin : (if (((s.trail.take n).length : Nat) : Int) < (s.head : Int) then (((s.trail.take n).length : Nat) : Int) else (s.head : Int)) = ((min s.head n : Nat) : Int) := by
  rw [List.length_take]; split <;> omega
 (repeat' (first | ((first | apply WL.opN | apply WD.opN); exact yF; dsimp only [ZB, z0, z1]) | refine WL.nil ?_ | refine WD.nil ?_ | refine ZA fun Kx hK => ?_ | (refine hK _ _ ?_; clear hK) | refine WC.region ?_ | (apply WC.draw; kernel_rfl; kernel_rfl) | ((first | apply WL.opN | apply WD.opN); (focus ((first | (exact ZH (OpD.t rfl)) | (refine ZM ZAz (OpD.t rfl) (by decide)) | (apply ZI; (first | exact tyI | exact ZAl | exact tyF | exact ZBi); exact OpD.t rfl; exact mAt 0 rfl; rfl) | (apply Z3; exact OpD.t rfl; exact mAt 5 rfl; exact elI.unt) | (exact Zr elI (OpD.t rfl) (mAt 5 rfl) (OpD.t rfl) rfl hlb) | (exact ZAd tyI (OpD.t rfl) (mAt 5 rfl) hlb) | (exact SY.fromR elI (OpD.t rfl) (mAt 4 rfl) (OpD.t rfl) hni hnt) | (exact ZDg Tryz.underlying25 (OpD.t rfl) (mAt 4 rfl) hnt) | ((first | apply SY.move | apply SY.assign | apply SY.lss | apply SY.geq) <;> (exact oD)) | fail); all_goals infer_instance)); dsimp only [ZB, z0, z1]) | (apply ZC; (exact oD); all_goals (intro h; try exact xD)) | refine WC.skip ?_ | refine WC.block ?_))
 all_goals try (exfalso; omega)
 (refine ZP (X := Nat) (fun i => [(26, dI (i : Int)), (5, dA), (27, dA), (28, dA), (29, dA), (30, dA), (31, dA), (32, dA), (33, dA), (34, dA), (35, dA), (36, dA), (37, dA), (38, dA), (39, dA), (40, dA), (41, dA), (42, dA), (43, dA), (44, dA), (45, dA), (46, dA), (47, dA)]) (fun i => (oS X V s :: hG X.bv kvI ZAF vvB (ZEw (ZJX s.val ((s.trail.drop n).take i))) :: hG X.bl kvI ZAF kvI (ZI8 (ZJV s.lev ((s.trail.drop n).take i))) :: hG X.br kvI ZAF kvI (ZHO (ZJW s.rea ((s.trail.drop n).take i))) :: oT X s :: oB X s :: hp)) (fun i => s.trail.length - n - i) (fun i => i ≤ s.trail.length - n) 0 ?start ?frame0 ?objs0 ?round)
 case start => exact Nat.zero_le _
 case frame0 => ((try dsimp only [ZX, z0, z1]); repeat (first | exact LeF.nil | refine ZG (k := ?_)))
 case objs0 => rfl
 case round =>
  rintro i hi
  dsimp only [ZX, z0, z1]
  by_cases hin : n + i < s.trail.length
  ·have hy := hs _ (List.getElem_mem hin)
   have hy2 := ZAa s.trail[n + i] hy
   have hy3 : ZAF (((s.trail[n + i]).natAbs : Nat) : Int) := by unfold ZAF; omega
   have hdn : (i : Int) < ((s.trail.length - n : Nat) : Int) := by omega
   have et := ZHC hin
   ((repeat' (first |  (apply WC.drawTail (id := 5) 6; kernel_rfl; kernel_rfl; simp only [List.take_succ_cons, List.take_zero, List.drop_succ_cons, List.drop_zero]) |  (apply WC.drawTail (id := 6) 6; kernel_rfl; kernel_rfl; simp only [List.take_succ_cons, List.take_zero, List.drop_succ_cons, List.drop_zero]) | (refine WRd.nil ?_) | (apply ZCB rfl; (focus (intro c hcc; apply SYG.yes; (exact Zi rfl); ((first | (apply SY.call (hy2) Tryz.call100; (exact aD)) | (exact ZH (OpD.t rfl)) | (refine ZM ZAz (OpD.t rfl) (by decide)) | (apply ZI; (first | exact tyI | exact ZAl | exact tyF | exact ZBi); exact OpD.t rfl; exact mAt 0 rfl; rfl) | (exact ZCa elI (OpD.t rfl) (mAt 4 rfl) (OpD.t rfl) rfl hin) | (exact ZAd tyI (OpD.t rfl) (mAt 4 rfl) hin) | ((first | apply SY.move | apply SY.assign | apply SY.lss | apply SY.geq) <;> (exact oD)) | ((first | apply SY.add) <;> first | exact oD | omega) | (apply SY.load; (exact tD); (exact oD)) | (apply Z1; (exact tD); (exact oD); (exact (by simp))) | (apply SY.len; (exact oD); (exact nD); (exact uD)) | (apply SY.lenRK; exact OpD.t rfl; (first | exact .head _ | exact .tail _ (.head _)); (exact uD)) | (apply Z3; exact OpD.t rfl; (first | exact .head _ | exact .tail _ (.head _)); (exact uD)) | (apply SY.ixK; (exact eD); (exact oD); (exact oD); exact kD) | (apply ZAy; (exact eD); (exact oD); (exact oD); exact kD) | (apply ZT clT; exact OpD.t rfl) | (apply ZU clT; exact OpD.t rfl) | ((first | (apply SY.sliceK; (exact eD)) | (apply ZBQ; (exact eD))); (exact oD); (first | exact BndD.no | exact BndD.yes (OpD.t rfl) | exact Zm (OpD.t rfl) (by omega) | exact Zm Zl rfl); (first | exact BndD.no | exact BndD.yes (OpD.t rfl) | exact Zm (OpD.t rfl) (by omega) | exact Zm Zl rfl); (first | assumption | omega); (first | assumption | omega)) | fail); all_goals infer_instance))); dsimp only [ZB, z0, z1]) | ((first | apply WL.opN | apply WD.opN); exact yF; dsimp only [ZB, z0, z1]) | refine WL.nil ?_ | refine WD.nil ?_ | refine ZA fun Kx hK => ?_ | (refine hK _ _ ?_; clear hK) | (refine Kont.skip ?_; clear hK) | refine WC.region ?_ | (apply WC.draw; kernel_rfl; kernel_rfl) |  (refine ZK (SW.at 1 rfl fun q => ZDf (ZEw (ZJX s.val ((s.trail.drop n).take i ++ [s.trail[n + i]]))) ZCk ZAP (OpD.t rfl) (OpD.t rfl) isI (i64 hy) ZIH) fun _ => ?_; dsimp only [ZB, z0, z1]) |  (refine ZK (SW.at 2 rfl fun q => ZDf (ZI8 (ZJV s.lev ((s.trail.drop n).take i ++ [s.trail[n + i]]))) ZCl ZAP (OpD.t rfl) (OpD.t rfl) isI hy3 ZIF) fun _ => ?_; dsimp only [ZB, z0, z1]) |  (refine ZK (SW.at 3 rfl fun q => ZDf (ZHO (ZJW s.rea ((s.trail.drop n).take i ++ [s.trail[n + i]]))) ZCl ZAP (OpD.t rfl) (OpD.t rfl) isI hy3 ZIG) fun _ => ?_; dsimp only [ZB, z0, z1]) | (apply ZAN; (exact tD); rfl; (exact oD); (exact hD); dsimp only [ZB, z0, z1]) | (apply WL.storeF2; (exact tD); rfl; (exact oD); (exact hD); dsimp only [ZB, z0, z1]) | (apply WL.storeF3; (exact tD); rfl; (exact oD); (exact hD); dsimp only [ZB, z0, z1]) | ((first | apply WL.opN | apply WD.opN); (focus ((first | (apply SY.call (hy2) Tryz.call100; (exact aD)) | (exact ZH (OpD.t rfl)) | (refine ZM ZAz (OpD.t rfl) (by decide)) | (apply ZI; (first | exact tyI | exact ZAl | exact tyF | exact ZBi); exact OpD.t rfl; exact mAt 0 rfl; rfl) | (exact ZCa elI (OpD.t rfl) (mAt 4 rfl) (OpD.t rfl) rfl hin) | (exact ZAd tyI (OpD.t rfl) (mAt 4 rfl) hin) | ((first | apply SY.move | apply SY.assign | apply SY.lss | apply SY.geq) <;> (exact oD)) | ((first | apply SY.add) <;> first | exact oD | omega) | fail); all_goals infer_instance)); dsimp only [ZB, z0, z1]) | (apply Zj; (exact oD); (with_reducible rfl)) | (apply Zg; (exact oD); (with_reducible rfl)) | (apply ZC; (exact oD); all_goals (intro h; try exact xD)) | (apply ZO; (exact oD); all_goals (intro h; try exact xD)) | (apply ZL; (exact oD); all_goals (intro h; try exact xD)) | (apply WC.cond; (exact oD); all_goals (intro h; try exact xD)) | refine WC.skip ?_ | refine WC.ret ?_ | refine WC.exit ?_ | refine WC.block ?_ | refine ThenD.n ?_ | refine ThenD.r ?_ | refine ThenD.x ?_ | refine InBlockD.x ?_ | refine InBlockD.n ?_ | refine InBlockD.r ?_ | refine ZCA (by decide) ?_)); all_goals (first | refine WC.id ?_ | refine WL.id ?_ | ((repeat clear hK); (repeat clear Kx))))
   all_goals try (exfalso; first | contradiction | omega)
   rw [<- et]
   (refine ⟨i + 1, ?_, by first | omega | (simp only; omega), rfl, ?_⟩; rotate_left; ((try dsimp only [ZX, z0, z1]); repeat (first | exact LeF.nil | refine ZG (k := ?_))); (try dsimp only))
   omega
  ·have hdn : ¬ (i : Int) < ((s.trail.length - n : Nat) : Int) := by omega
   obtain rfl : i = s.trail.length - n := by omega
   have ea : (s.trail.drop n).take (s.trail.length - n) = s.trail.drop n := List.take_of_length_le (by rw [List.length_drop]; exact Nat.le_refl _)
   rw [ea]
   refine ZEN (mAt 4 rfl) fun hT1 => ZEN (mAt 5 rfl) fun hB1 => ?_
   have hT2 := ZFx (k := n) hT1
   have hB2 := ZFx (k := l) hB1
   ((repeat' (first |  (apply WC.drawTail (id := 8) 13; kernel_rfl; kernel_rfl; simp only [List.take_succ_cons, List.take_zero, List.drop_succ_cons, List.drop_zero]) |  (apply WC.drawTail (id := 10) 11; kernel_rfl; kernel_rfl; simp only [List.take_succ_cons, List.take_zero, List.drop_succ_cons, List.drop_zero]) | (refine WRd.nil ?_) | (apply ZCB rfl; (focus (intro c hcc; apply SYG.yes; (exact Zi rfl); ((first | (exact ZH (OpD.t rfl)) | (refine ZM ZAz (OpD.t rfl) (by decide)) | (apply ZI; (first | exact tyI | exact ZAl | exact tyF | exact ZBi); exact OpD.t rfl; exact mAt 0 rfl; rfl) | (exact Zr elI (OpD.t rfl) (mAt 5 rfl) (OpD.t rfl) rfl hlb) | (exact ZAd tyI (OpD.t rfl) (mAt 5 rfl) hlb) | (exact SY.uptoR elI (OpD.t rfl) (mAt 4 rfl) (OpD.t rfl) hni hnt) | (exact SY.uptoR elI (OpD.t rfl) (mAt 5 rfl) (OpD.t rfl) rfl (Nat.le_of_lt hlb)) | (apply Z3; exact OpD.t rfl; exact mAt 4 rfl; exact elI.unt) | (exact hmin ▸ ZFl (OpD.t rfl) (OpD.t rfl)) | ((first | apply SY.move | apply SY.assign | apply SY.lss | apply SY.geq) <;> (exact oD)) | ((first | apply SY.add) <;> first | exact oD | omega) | (apply SY.load; (exact tD); (exact oD)) | (apply Z1; (exact tD); (exact oD); (exact (by simp))) | (apply SY.len; (exact oD); (exact nD); (exact uD)) | (apply SY.lenRK; exact OpD.t rfl; (first | exact .head _ | exact .tail _ (.head _)); (exact uD)) | (apply Z3; exact OpD.t rfl; (first | exact .head _ | exact .tail _ (.head _)); (exact uD)) | (apply SY.ixK; (exact eD); (exact oD); (exact oD); exact kD) | (apply ZAy; (exact eD); (exact oD); (exact oD); exact kD) | (apply ZT clT; exact OpD.t rfl) | (apply ZU clT; exact OpD.t rfl) | ((first | (apply SY.sliceK; (exact eD)) | (apply ZBQ; (exact eD))); (exact oD); (first | exact BndD.no | exact BndD.yes (OpD.t rfl) | exact Zm (OpD.t rfl) (by omega) | exact Zm Zl rfl); (first | exact BndD.no | exact BndD.yes (OpD.t rfl) | exact Zm (OpD.t rfl) (by omega) | exact Zm Zl rfl); (first | assumption | omega); (first | assumption | omega)) | fail); all_goals infer_instance))); dsimp only [ZB, z0, z1]) | ((first | apply WL.opN | apply WD.opN); exact yF; dsimp only [ZB, z0, z1]) | refine WL.nil ?_ | refine WD.nil ?_ | refine ZA fun Kx hK => ?_ | (refine hK _ _ ?_; clear hK) | (refine Kont.skip ?_; clear hK) | refine WC.region ?_ | (apply WC.draw; kernel_rfl; kernel_rfl) |  (refine ZK (SW.at 0 rfl fun q => SW.storeS ZAl (OpD.t rfl) (OpD.t rfl) (Z8 hT2) (by simp)) fun _ => ?_; dsimp only [ZB, z0, z1]; refine WL.swap 4 rfl (fun q h => ZFp hnt h) ?_; dsimp only [z0, z1]) |  (refine ZK (SW.at 0 rfl fun q => SW.storeS ZAl (OpD.t rfl) (OpD.t rfl) (Z8 hB2) (by simp)) fun _ => ?_; dsimp only [ZB, z0, z1]; refine WL.swap 5 rfl (fun q h => ZFp (Nat.le_of_lt hlb) h) ?_; dsimp only [z0, z1]) |  (refine ZK (SW.at 0 rfl fun q => SW.storeS tyI (OpD.t rfl) (OpD.t rfl) Zf (by simp)) fun _ => ?_; dsimp only [ZB, z0, z1]) | (apply ZAN; (exact tD); rfl; (exact oD); (exact hD); dsimp only [ZB, z0, z1]) | (apply WL.storeF2; (exact tD); rfl; (exact oD); (exact hD); dsimp only [ZB, z0, z1]) | (apply WL.storeF3; (exact tD); rfl; (exact oD); (exact hD); dsimp only [ZB, z0, z1]) | ((first | apply WL.opN | apply WD.opN); (focus ((first | (exact ZH (OpD.t rfl)) | (refine ZM ZAz (OpD.t rfl) (by decide)) | (apply ZI; (first | exact tyI | exact ZAl | exact tyF | exact ZBi); exact OpD.t rfl; exact mAt 0 rfl; rfl) | (exact Zr elI (OpD.t rfl) (mAt 5 rfl) (OpD.t rfl) rfl hlb) | (exact ZAd tyI (OpD.t rfl) (mAt 5 rfl) hlb) | (exact SY.uptoR elI (OpD.t rfl) (mAt 4 rfl) (OpD.t rfl) hni hnt) | (exact SY.uptoR elI (OpD.t rfl) (mAt 5 rfl) (OpD.t rfl) rfl (Nat.le_of_lt hlb)) | (apply Z3; exact OpD.t rfl; exact mAt 4 rfl; exact elI.unt) | (exact hmin ▸ ZFl (OpD.t rfl) (OpD.t rfl)) | ((first | apply SY.move | apply SY.assign | apply SY.lss | apply SY.geq) <;> (exact oD)) | ((first | apply SY.add) <;> first | exact oD | omega) | (apply SY.load; (exact tD); (exact oD)) | (apply Z1; (exact tD); (exact oD); (exact (by simp))) | (apply SY.len; (exact oD); (exact nD); (exact uD)) | (apply SY.lenRK; exact OpD.t rfl; (first | exact .head _ | exact .tail _ (.head _)); (exact uD)) | (apply Z3; exact OpD.t rfl; (first | exact .head _ | exact .tail _ (.head _)); (exact uD)) | (apply SY.ixK; (exact eD); (exact oD); (exact oD); exact kD) | (apply ZAy; (exact eD); (exact oD); (exact oD); exact kD) | (apply ZT clT; exact OpD.t rfl) | (apply ZU clT; exact OpD.t rfl) | ((first | (apply SY.sliceK; (exact eD)) | (apply ZBQ; (exact eD))); (exact oD); (first | exact BndD.no | exact BndD.yes (OpD.t rfl) | exact Zm (OpD.t rfl) (by omega) | exact Zm Zl rfl); (first | exact BndD.no | exact BndD.yes (OpD.t rfl) | exact Zm (OpD.t rfl) (by omega) | exact Zm Zl rfl); (first | assumption | omega); (first | assumption | omega)) | fail); all_goals infer_instance)); dsimp only [ZB, z0, z1]) | (apply Zj; (exact oD); (with_reducible rfl)) | (apply Zg; (exact oD); (with_reducible rfl)) | (apply ZC; (exact oD); all_goals (intro h; try exact xD)) | (apply ZO; (exact oD); all_goals (intro h; try exact xD)) | (apply ZL; (exact oD); all_goals (intro h; try exact xD)) | (apply WC.cond; (exact oD); all_goals (intro h; try exact xD)) | refine WC.skip ?_ | refine WC.ret ?_ | refine WC.exit ?_ | refine WC.block ?_ | refine ThenD.n ?_ | refine ThenD.r ?_ | refine ThenD.x ?_ | refine InBlockD.x ?_ | refine InBlockD.n ?_ | refine InBlockD.r ?_ | refine ZCA (by decide) ?_)); all_goals (first | refine WC.id ?_ | refine WL.id ?_ | ((repeat clear hK); (repeat clear Kx))))
   all_goals try (exfalso; first | contradiction | omega)
   have eb : Zz s l = { s with val := ZJX s.val (s.trail.drop n), lev := ZJV s.lev (s.trail.drop n), rea := ZJW s.rea (s.trail.drop n), trail := s.trail.take n, begins := s.begins.take l, head := min s.head n } := by
    unfold Zz
    rw [if_neg hl, hg]
    rfl
   rw [eb, ZGt]
   exact ⟨trivial, core { X with vT := ZHZ X.vT n, vB := ZHZ X.vB l } V { s with val := ZJX s.val (s.trail.drop n), lev := ZJV s.lev (s.trail.drop n), rea := ZJW s.rea (s.trail.drop n), trail := s.trail.take n, begins := s.begins.take l, head := min s.head n }, rfl, _, _, rfl⟩
end
end Go.Proofs.YtjmignmnlpamjaaGreat
