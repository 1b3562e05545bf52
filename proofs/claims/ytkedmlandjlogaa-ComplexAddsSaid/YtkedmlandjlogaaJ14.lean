/-
  Part 14 of the texts that the claims of this seat lean on: walks of the program's functions by contracts over symbolic frames, and plain laws of what they compute. No condition.
-/
import Derived.ControlIn
import Derived.Deep.MidRow
import Derived.Ground.NamesProg
import Derived.Ground.SlsfProg
import Derived.OrdersIn
import Derived.Shelf.SlSortCmp.NoneTotal
import Derived.Shelf.SlSortCmp.Whole1
import Derived.TacticsIn
import Derived.Test.YtkedmlandjlogaaProg
import Derived.Test.YtkedmlandjlogaaJ6
import Derived.Test.YtkedmlandjlogaaJ8
import Derived.Test.YtkedmlandjlogaaJ13
set_option linter.unusedVariables false
set_option linter.unusedSimpArgs false
set_option linter.unusedSectionVars false
namespace Go.Proofs
open Go.Shelf
def Try.sortS_ren : Go.Shelf.Ren := ⟨fun | 6 => 77 | 15 => 101 | 14 => 100 | 28 => 119 | 29 => 120 | 20 => 111 | 21 => 112 | 22 => 113 | 23 => 114 | 24 => 115 | 25 => 116 | 26 => 117 | 27 => 118 | 46 => 122 | 47 => 123 | 48 => 124 | 49 => 125 | 50 => 126 | 57 => 127 | n => n, fun | 22 => 22 | 24 => 25 | 25 => 106 | 3 => 3 | 39 => 127 | 0 => 0 | 53 => 142 | 55 => 144 | 4 => 4 | 46 => 136 | 45 => 135 | 50 => 82 | 5 => 5 | 9 => 9 | 66 => 145 | 70 => 149 | 76 => 151 | 77 => 46 | n => n, fun | n => n⟩
theorem Try.sortS : Go.Proofs.SlLaysF.n6 Try.prog Try.sortS_ren := {
  mixed := by kernel_rfl
  f6 := ⟨Try.f77.name, by decide, Try.func77.trans (congrArg some (by kernel_rfl))⟩
  f14 := ⟨Try.f100.name, by decide, Try.func100.trans (congrArg some (by kernel_rfl))⟩
  f15 := Try.func101.trans (congrArg some (by kernel_rfl))
  f20 := ⟨Try.f111.name, by decide, Try.func111.trans (congrArg some (by kernel_rfl))⟩
  f21 := ⟨Try.f112.name, by decide, Try.func112.trans (congrArg some (by kernel_rfl))⟩
  f22 := ⟨Try.f113.name, by decide, Try.func113.trans (congrArg some (by kernel_rfl))⟩
  f23 := ⟨Try.f114.name, by decide, Try.func114.trans (congrArg some (by kernel_rfl))⟩
  f24 := ⟨Try.f115.name, by decide, Try.func115.trans (congrArg some (by kernel_rfl))⟩
  f25 := ⟨Try.f116.name, by decide, Try.func116.trans (congrArg some (by kernel_rfl))⟩
  f26 := ⟨Try.f117.name, by decide, Try.func117.trans (congrArg some (by kernel_rfl))⟩
  f27 := ⟨Try.f118.name, by decide, Try.func118.trans (congrArg some (by kernel_rfl))⟩
  f28 := Try.func119.trans (congrArg some (by kernel_rfl))
  f29 := Try.func120.trans (congrArg some (by kernel_rfl))
  f46 := ⟨Try.f122.name, by decide, Try.func122.trans (congrArg some (by kernel_rfl))⟩
  f47 := Try.func123.trans (congrArg some (by kernel_rfl))
  f48 := Try.func124.trans (congrArg some (by kernel_rfl))
  f49 := ⟨Try.f125.name, by decide, Try.func125.trans (congrArg some (by kernel_rfl))⟩
  f50 := ⟨Try.f126.name, by decide, Try.func126.trans (congrArg some (by kernel_rfl))⟩
  f57 := ⟨Try.f127.name, by decide, Try.func127.trans (congrArg some (by kernel_rfl))⟩
  t0 := Try.underlying0
  a0 := Try.isAgg0
  z0 := Try.sizeOf0
  v0 := Try.zeroValue0
  t3 := Try.underlying3
  a3 := Try.isAgg3
  z3 := Try.sizeOf3
  v3 := Try.zeroValue3
  t4 := Try.underlying4
  a4 := Try.isAgg4
  z4 := Try.sizeOf4
  v4 := Try.zeroValue4
  t5 := Try.underlying5
  a5 := Try.isAgg5
  z5 := Try.sizeOf5
  v5 := Try.zeroValue5
  t9 := Try.underlying9
  a9 := Try.isAgg9
  z9 := Try.sizeOf9
  v9 := Try.zeroValue9
  t22 := Try.underlying22
  a22 := Try.isAgg22
  z22 := Try.sizeOf22
  v22 := Try.zeroValue22
  a24 := Try.isAgg25
  z24 := Try.sizeOf25
  t25 := Try.underlying106
  a25 := Try.isAgg106
  z25 := Try.sizeOf106
  v25 := Try.zeroValue106
  t39 := Try.underlying127
  a39 := Try.isAgg127
  z39 := Try.sizeOf127
  v39 := Try.zeroValue127
  t45 := Try.underlying135
  a45 := Try.isAgg135
  z45 := Try.sizeOf135
  v45 := Try.zeroValue135
  t46 := Try.underlying136
  a46 := Try.isAgg136
  z46 := Try.sizeOf136
  v46 := Try.zeroValue136
  t50 := Try.underlying82
  a50 := Try.isAgg82
  z50 := Try.sizeOf82
  v50 := Try.zeroValue82
  t53 := Try.underlying142
  a53 := Try.isAgg142
  z53 := Try.sizeOf142
  v53 := Try.zeroValue142
  t55 := Try.underlying144
  a55 := Try.isAgg144
  z55 := Try.sizeOf144
  v55 := Try.zeroValue144
  t66 := Try.underlying145
  a66 := Try.isAgg145
  z66 := Try.sizeOf145
  v66 := Try.zeroValue145
  t70 := Try.underlying149
  a70 := Try.isAgg149
  z70 := Try.sizeOf149
  v70 := Try.zeroValue149
  t76 := Try.underlying151
  a76 := Try.isAgg151
  z76 := Try.sizeOf151
  v76 := Try.zeroValue151
  t77 := Try.underlying46
  a77 := Try.isAgg46
  z77 := Try.sizeOf46
  v77 := Try.zeroValue46 }
end Go.Proofs
namespace Go.Proofs.Ytkedmlandjlogaa
theorem cmpV_range (x y : Vx) : -1 ≤ cmpV x y ∧ cmpV x y ≤ 1 := by rcases cmpV_cases x y with h | h | h <;> omega
theorem cmpL_neg : ∀ (a b : List Vx), cmpL b a = - cmpL a b
  | [], [] => by simp [cmpL]
  | [], _ :: _ => by simp [cmpL]
  | _ :: _, [] => by simp [cmpL]
  | x :: a, y :: b => by
    unfold cmpL
    have h := cmpV_neg x y
    split <;> split
    · exact cmpL_neg a b
    · omega
    · omega
    · exact h
theorem cmpL_trans : ∀ (a b c : List Vx), cmpL a b ≤ 0 → cmpL b c ≤ 0 → cmpL a c ≤ 0 ∧ (cmpL a c = 0 → 0 ≤ cmpL a b + cmpL b c)
  | [], [], [], _, _ => by simp [cmpL]
  | [], [], _ :: _, _, _ => by simp [cmpL]
  | [], _ :: _, [], _, h => by simp [cmpL] at h
  | [], _ :: _, _ :: _, _, _ => by simp [cmpL]
  | _ :: _, [], _, h, _ => by simp [cmpL] at h
  | _ :: _, _ :: _, [], _, h => by simp [cmpL] at h
  | x :: a, y :: b, z :: c, h, h' => by
    have ih := cmpL_trans a b c
    unfold cmpL at h h' ⊢
    have r1 := cmpV_range x y
    have r2 := cmpV_range y z
    by_cases e1 : cmpV x y = 0
    · have := cmpV_eq.1 e1
      subst this
      rw [if_pos e1] at h ⊢
      by_cases e2 : cmpV x z = 0
      · simp only [e2, if_true] at h' ⊢
        exact ih h h'
      · rw [if_neg e2] at h'
        rw [if_neg e2]
        exact ⟨h', fun h0 => absurd h0 e2⟩
    · rw [if_neg e1] at h ⊢
      by_cases e2 : cmpV y z = 0
      · have := cmpV_eq.1 e2
        subst this
        rw [if_neg e1]
        omega
      · rw [if_neg e2] at h' ⊢
        have e3 := cmpV_trans (by omega : cmpV x y < 0) (by omega : cmpV y z < 0)
        rw [if_neg (by omega)]
        omega
end Go.Proofs.Ytkedmlandjlogaa
namespace Go.Proofs.Ytkedmlandjlogaa
open Go.RowKit Go.Sort Go.Shelf
section
variable {w : World} {g n cap : Nat} {os : Array Obj} {cur : Array Value} {e : TypeId} {fz : Nat × Nat} {α : Type} [Inhabited α] {enc : α → Value}
theorem grownBy_sorted1 (d : Array α) : w.grownBy (sortWorld enc w g 0 n d os) (some g) := by
  refine ⟨rfl, rfl, rfl, by simp [sortWorld], fun k hk hne => ?_⟩
  unfold sortWorld
  rw [heap_grow_old _ _ (by simpa using hk)]
  have : g ≠ k := fun e => hne (by rw [e])
  simp [putRow, mapBlock, Sort.ahead, Array.getElem?_modify, this]
theorem heap_sorted1 (d : Array α) (hb : w.heap[g]? = some (.cells cur e fz)) :
    (sortWorld enc w g 0 n d os).heap[g]? = some (.cells (putCells enc 0 d cur) e fz) := by
  have hg : g < w.heap.size := (Array.getElem?_eq_some_iff.1 hb).1
  unfold sortWorld
  rw [heap_grow_old _ _ (by simpa using hg)]
  simp [putRow, mapBlock, Sort.ahead, Array.getElem?_modify, hb, onCells]
theorem holds_of_row1 {d : Array α} (hb : w.heap[g]? = some (.cells cur e (0, 0))) (ht : cur.toList.take d.size = d.toList.map enc) : Holds enc w g 0 d := by
  intro j hj
  refine ⟨?_, by simp [World.frozen?, hb]⟩
  have h1 : (cur.toList.take d.size)[j]? = (d.toList.map enc)[j]? := by rw [ht]
  rw [List.getElem?_take_of_lt hj] at h1
  simp only [World.cell?, hb, Nat.zero_add]
  simp only [Option.isSome_none, Bool.false_eq_true, if_false]
  rw [← Array.getElem?_toList, h1, getElem!_pos _ j hj]
  simp [hj]
theorem take_putCells1 (cur : Array Value) (d : Array α) (h : d.size ≤ cur.size) : (putCells enc 0 d cur).toList.take d.size = d.toList.map enc := by
  apply List.ext_getElem?
  intro j
  by_cases hj : j < d.size
  · rw [List.getElem?_take_of_lt hj, Array.getElem?_toList]
    simp [putCells, hj, show j < cur.size by omega]
  · rw [List.getElem?_take_eq_none (by omega), List.getElem?_eq_none (by simp; omega)]
end
theorem cmpL_lt_trans0 {a b c : List Vx} (h : cmpL a b < 0) (k : cmpL b c < 0) : cmpL a c < 0 := by
  obtain ⟨h1, h2⟩ := cmpL_trans a b c (by omega) (by omega)
  rcases Int.lt_or_eq_of_le h1 with h3 | h3
  · exact h3
  · have := h2 h3; omega
theorem swoL {α : Type} (f : α → List Vx) : SWO (ltOf fun x y : α => cmpL (f x) (f y)) where
  irrefl x := by simp [ltOf, cmpL_eq.2 (rfl : f x = f x)]
  trans x y z h h' := by
    simp only [ltOf, decide_eq_true_eq] at *
    exact cmpL_lt_trans0 h h'
  ntrans x y z h h' := by
    simp only [ltOf, decide_eq_false_iff_not] at *
    have e1 := cmpL_neg (f x) (f y)
    have e2 := cmpL_neg (f y) (f z)
    have e3 := cmpL_neg (f x) (f z)
    have := (cmpL_trans (f z) (f y) (f x) (by omega) (by omega)).1
    omega
section
variable {ops : Array Oper} {hp : List HObj} {fr : List Dat} {Q : Post} {rest : List Oper} {dst : Option Tmp} {ty : TypeId} {ps : String} {af : Array Edge}
theorem WL.sortS {x : Operand} {v : Value} {e : TypeId} {xs : List (List Vx)} {ats : Array TypeId} (hx : OpD fr x (dX v)) (hlen : xs.length < 4611686018427387904)
    (h : ∀ ys : List (List Vx), ys.Perm xs → ys.Pairwise (fun a b => ¬ cmpL b a < 0) → WL Try.prog ops Q rest (setD fr dst dA) (hRow v e Verts ys :: hp)) :
    WL Try.prog ops Q ({ dst := dst, op := .call { callee := .value (.func 77), args := #[x, .func 78], argTypes := ats }, type := ty, pos := ps, after := af, guard := none } :: rest) fr (hRow v e Verts xs :: hp) := by
  refine WL.of fun P0 B w0 w a hh hf => ?_
  have hok := hh.ok (hRow v e Verts xs) (by simp)
  obtain ⟨us, h1, h2, h3⟩ := hok
  have hev : a.eval x = v := hx.ev hf
  obtain ⟨hfl, hv⟩ := h2
  have hrun : (execOp a.eval { dst := dst, op := .call { callee := .value (.func 77), args := #[x, .func 78], argTypes := ats }, type := ty, pos := ps, after := af, guard := none }).run Try.prog w = .ok (.enter 77 #[v, .func (.func 78) #[] #[]]) w := by
    unfold execOp
    simp only [resolve]
    have he : (#[x, Operand.func 78] : Array Operand).map a.eval = #[v, .func (.func 78) #[] #[]] := by simp [hev]; rfl
    rw [he]
    simp [Act.eval, Deferred.ofValue, invoke, Try.call77]
  by_cases hne : xs = []
  · subst hne
    have hv0 : ∃ p cap, v = .slice p 0 cap := by
      rcases hv with ⟨hv, _⟩ | ⟨g, cap, cur, hv, _⟩
      · exact ⟨_, _, hv⟩
      · exact ⟨_, _, hv⟩
    obtain ⟨p, cap, hv0⟩ := hv0
    have hcon := AnyF.slices_SortFunc_none (P := Try.prog) (ρ := Try.sortS_ren) { Try.sortS with } p cap (.func (.func 78) #[] #[]) w
    change Calls Try.prog 77 _ _ _ at hcon
    refine wpList_plain rfl fun K hK => ?_
    unfold Oper.wp
    rw [hrun, hv0]
    refine hcon.mono fun e' w' ⟨he, hw'⟩ => ?_
    subst he
    subst hw'
    exact hK _ _ ((h [] (List.Perm.refl _) List.Pairwise.nil).on hh (hf.put (d := dA) trivial))
  have hpos : 0 < xs.length := List.length_pos_iff.2 hne
  rcases hv with ⟨_, hz⟩ | ⟨g, cap, cur, hv, hB, hg, hc1, hc2, hc3, hc4⟩
  · omega
  have hgb : g < w.heap.size := (Array.getElem?_eq_some_iff.1 hg).1
  let J : Nat → Prop := fun b => Imm P0 B (hRow v e Verts xs :: hp) b ∧ v.ownBlock ≠ some b
  let α := {p : Value × List Vx // p.1.oneCell' = true ∧ Verts J w p.1 p.2}
  let at0 : Fin xs.length → α := fun k => ⟨(us[k.1]'(by omega), xs[k.1]), h3 k.1 (by omega) k.2⟩
  haveI : Inhabited α := ⟨at0 ⟨0, hpos⟩⟩
  let enc : α → Value := fun p => p.1.1
  let d : Array α := (List.ofFn at0).toArray
  have hds : d.size = xs.length := by simp [d]
  have hdu : d.toList.map enc = us := by
    apply List.ext_getElem (by simp [d, h1])
    intro k a b
    simp [d, enc, at0]
  have hdx : d.toList.map (fun p => p.1.2) = xs := by
    apply List.ext_getElem (by simp [d])
    intro k a b
    simp [d, at0]
  have hown : v.ownBlock = some g := by rw [hv]; rfl
  have hH : Holds enc w g 0 d := holds_of_row1 hg (by rw [hds, hdu]; simpa using hc4)
  have hgr : ∀ (d' : Array α) (n : Nat) (os : Array Obj), w.grownBy (sortWorld enc w g 0 n d' os) (hRow v e Verts xs).blk := fun d' n os => by
    show w.grownBy _ v.ownBlock
    rw [hown]; exact grownBy_sorted1 d'
  have hmove : ∀ (p : α) (d' : Array α) (n : Nat) (os : Array Obj), Verts (fun b => J b ∧ b < w.heap.size) (sortWorld enc w g 0 n d' os) p.1.1 p.1.2 := fun p d' n os =>
    Good.move (Good.bound p.2.2) fun k hk hlt => (hgr d' n os).block k hlt fun he => hk.1.2 he.symm
  have hcon := Any.slices_SortFunc Try.sortS enc (fun p => p.2.1) (fun p q => cmpL p.1.2 q.1.2) (swoL fun p : α => p.1.2) 78 #[] g 0 cap d w Try.call78
    (fun m os dk _ p q => M.cmpL_x (hmove p dk m os) (hmove q dk m os)) hH hgb (by rw [hds]; exact hlen)
  change Calls Try.prog 77 _ _ _ at hcon
  refine wpList_plain rfl fun K hK => ?_
  unfold Oper.wp
  rw [hrun]
  have hva : v = .slice (some ⟨g, 0, none⟩) d.size cap := by rw [hds]; exact hv
  rw [← hva] at hcon
  refine hcon.mono fun e' w' ⟨he, d', n, os, hp1, hs, hw'⟩ => ?_
  subst he
  subst hw'
  obtain ⟨q1, _, q3⟩ := hp1
  have hperm : d'.toList.Perm d.toList := by
    have e1 : d'.extract 0 d.size = d' := by rw [← q1]; simp
    have e2 : d.extract 0 d.size = d := by simp
    rw [e1, e2] at q3
    exact q3
  have hys : (d'.toList.map fun p => p.1.2).Perm xs := by
    have := hperm.map (fun p : α => p.1.2)
    rwa [hdx] at this
  have hsort : (d'.toList.map fun p => p.1.2).Pairwise (fun a b => ¬ cmpL b a < 0) := by
    rw [List.pairwise_map, List.pairwise_iff_getElem]
    intro i j hi hj hij
    have hi' : i < d'.size := by simpa using hi
    have hj' : j < d'.size := by simpa using hj
    have := hs i j (Nat.zero_le _) hij (by omega)
    rw [getElem!_pos d' i hi', getElem!_pos d' j hj'] at this
    simpa [ltOf] using this
  have hlen' : (d'.toList.map fun p => p.1.2).length = xs.length := by simp; omega
  have hok : (hRow v e Verts (d'.toList.map fun p => p.1.2)).ok (fun k => Imm P0 B (hRow v e Verts xs :: hp) k ∧ k < w.heap.size) (sortWorld enc w g 0 n d' os) := by
    refine ⟨d'.toList.map enc, by simp, ⟨by simp, .inr ⟨g, cap, putCells enc 0 d' cur, ?_, hB, heap_sorted1 _ hg, by omega, hc2, by simp [putCells, hc3], ?_⟩⟩, fun k a b => ?_⟩
    · rw [hlen']; exact hv
    · rw [hlen', Nat.mul_one, ← hds, ← q1]
      exact take_putCells1 _ _ (by rw [q1, hds, hc3]; omega)
    · have hk : k < d'.toList.length := by simpa using a
      refine ⟨by rw [List.getElem_map]; exact d'.toList[k].2.1, ?_⟩
      rw [List.getElem_map, List.getElem_map]
      exact Good.weak (hmove d'.toList[k] d' n os) fun b hb => ⟨⟨hb.1.1, hb.2⟩, hb.1.2⟩
  exact hK _ _ ((h _ hys hsort).on (hh.write (hgr d' n os) (.inl rfl) hok) (Fr.put (hf.mono fun _ _ hd => Hp.written (o' := hRow v e Verts (d'.toList.map fun p => p.1.2)) (hgr d' n os) (.inl rfl) hd) (d := dA) trivial))
end
end Go.Proofs.Ytkedmlandjlogaa
namespace Go.Proofs.Ytkedmlandjlogaa
open Go.RowKit
def hFr (a : Act) (fr : List Dat) : HObj where
  blk := none
  ok := fun I w => ∀ (t : Nat) (d : Dat), fr[t]? = some d → d.rd I w (a.tmps.getD t undef)
  weak := fun h q t d hd => d.weak (h t d hd) q
  bound := fun h t d hd => d.bound (h t d hd)
  move := fun h hg hP _ t d hd => d.grown (h t d hd) hg hP
section
variable {P : Program} {ops : Array Oper} {hp : List HObj} {o : Oper} {fr : List Dat} {d : Dat} {Q : Post} {rest : List Oper}
variable {dst : Option Tmp} {ty : TypeId} {ps : String} {af : Array Edge} {g : Option (Nat × Bool)} {P0 : Nat → Prop} {B : Nat} {w0 w : World}
theorem imm_ghost {gh : HObj} (hg : gh.blk = none) (l : List HObj) (k : Nat) : Imm P0 B (l ++ gh :: hp) k ↔ Imm P0 B (l ++ hp) k := by
  unfold Imm
  refine and_congr Iff.rfl ⟨fun h o ho => h o ?_, fun h o ho => ?_⟩
  · rcases List.mem_append.1 ho with ho | ho
    · exact List.mem_append_left _ ho
    · exact List.mem_append_right _ (List.mem_cons_of_mem _ ho)
  · rcases List.mem_append.1 ho with ho | ho
    · exact h o (List.mem_append_left _ ho)
    · rcases List.mem_cons.1 ho with rfl | ho
      · rw [hg]; simp
      · exact h o (List.mem_append_right _ ho)
theorem Hp.ghost {gh : HObj} (hg : gh.blk = none) {l : List HObj} (h : Hp P0 B w0 (l ++ hp) w) (hok : gh.ok (Imm P0 B (l ++ hp)) w) : Hp P0 B w0 (l ++ gh :: hp) w where
  base := h.base
  below := h.below
  own := fun o ho k hk => by
    rcases List.mem_append.1 ho with ho | ho
    · exact h.own o (List.mem_append_left _ ho) k hk
    · rcases List.mem_cons.1 ho with rfl | ho
      · rw [hg] at hk; cases hk
      · exact h.own o (List.mem_append_right _ ho) k hk
  ok := fun o ho => by
    rcases List.mem_append.1 ho with ho | ho
    · exact o.weak (h.ok o (List.mem_append_left _ ho)) fun k => (imm_ghost hg l k).2
    · rcases List.mem_cons.1 ho with rfl | ho
      · exact o.weak hok fun k => (imm_ghost hg l k).2
      · exact o.weak (h.ok o (List.mem_append_right _ ho)) fun k => (imm_ghost hg l k).2
  apart := by
    have h1 := h.apart
    rw [List.pairwise_append] at h1 ⊢
    refine ⟨h1.1, List.pairwise_cons.2 ⟨fun q _ k hk => (by rw [hg] at hk; cases hk), h1.2.1⟩, fun o ho q hq k hk => ?_⟩
    rcases List.mem_cons.1 hq with rfl | hq
    · rw [hg]; simp
    · exact h1.2.2 o ho q hq k hk
theorem Hp.unghost {gh : HObj} (hg : gh.blk = none) {l : List HObj} (h : Hp P0 B w0 (l ++ gh :: hp) w) : Hp P0 B w0 (l ++ hp) w ∧ gh.ok (Imm P0 B (l ++ hp)) w := by
  have hm : ∀ o, o ∈ l ++ hp → o ∈ l ++ gh :: hp := fun o ho => by
    rcases List.mem_append.1 ho with ho | ho
    · exact List.mem_append_left _ ho
    · exact List.mem_append_right _ (List.mem_cons_of_mem _ ho)
  refine ⟨⟨h.base, h.below, fun o ho => h.own o (hm o ho), fun o ho => o.weak (h.ok o (hm o ho)) fun k => (imm_ghost hg l k).1, ?_⟩, gh.weak (h.ok gh (by simp)) fun k => (imm_ghost hg l k).1⟩
  have h1 := h.apart
  rw [List.pairwise_append] at h1 ⊢
  exact ⟨h1.1, (List.pairwise_cons.1 h1.2.1).2, fun o ho q hq => h1.2.2 o ho q (List.mem_cons_of_mem _ hq)⟩
def finI (t : Nat) (K : Dat → List HObj → Prop) (gh : HObj) (hp : List HObj) : Post := fun e f q => (match e with | .normal | .ret => True | _ => False) ∧ ∃ d hp2, f[t]? = some d ∧ q = hp2 ++ gh :: hp ∧ K d hp2
end
end Go.Proofs.Ytkedmlandjlogaa
namespace Go.Proofs.Ytkedmlandjlogaa
open Go.RowKit
def encV (x : Vx) : List Value := [.int .i64 x.1, .int .i64 x.2]
theorem us_encV {P : Nat → Prop} {w : World} {us : List (List Value)} {xs : List Vx} {v : Value} (hl : us.length = xs.length) (h : ∀ k (h : k < us.length) (h' : k < xs.length), RV (fun b => P b ∧ v.ownBlock ≠ some b) w (.agg us[k].toArray) xs[k]) : us = xs.map encV := by
  apply List.ext_getElem (by simp [hl])
  intro k h1 h2
  have := h k h1 (by omega)
  have h3 : Value.agg us[k].toArray = .agg #[.int .i64 xs[k].1, .int .i64 xs[k].2] := this
  injection h3 with h3
  rw [List.getElem_map]
  exact List.toArray_inj h3
end Go.Proofs.Ytkedmlandjlogaa
namespace Go.Proofs.Ytkedmlandjlogaa
open Go.RowKit

def flatV (xs : List Vx) : List Value := (xs.map encV).flatten
theorem flatV_nil : flatV [] = [] := rfl
theorem flatV_cons (x : Vx) (l : List Vx) : flatV (x :: l) = .int .i64 x.1 :: .int .i64 x.2 :: flatV l := rfl
theorem flatV_len : ∀ (l : List Vx), (flatV l).length = l.length * 2
  | [] => rfl
  | x :: l => by rw [flatV_cons]; simp only [List.length_cons, flatV_len l]; omega
theorem flatV_app (a b : List Vx) : flatV (a ++ b) = flatV a ++ flatV b := by unfold flatV; rw [List.map_append, List.flatten_append]
theorem flatV_one (l : List Vx) : ∀ c ∈ flatV l, c.oneCell' = true := fun c hc => by
  unfold flatV at hc
  obtain ⟨u, hu, hc⟩ := List.mem_flatten.1 hc
  obtain ⟨x, _, rfl⟩ := List.mem_map.1 hu
  simp [encV] at hc
  rcases hc with rfl | rfl <;> rfl
theorem flatV_get {l : List Vx} {k : Nat} (h : k < l.length) : (flatV l)[k * 2]? = some (.int .i64 l[k].1) ∧ (flatV l)[k * 2 + 1]? = some (.int .i64 l[k].2) := by
  have e : l = l.take k ++ l[k] :: l.drop (k + 1) := by rw [← List.drop_eq_getElem_cons h, List.take_append_drop]
  have hl : (flatV (l.take k)).length = k * 2 := by rw [flatV_len, List.length_take]; congr 1; omega
  have e2 : flatV l = flatV (l.take k) ++ (.int .i64 l[k].1 :: .int .i64 l[k].2 :: flatV (l.drop (k + 1))) := by
    conv => lhs; rw [e]
    rw [flatV_app, flatV_cons]
  rw [e2]
  constructor
  · rw [List.getElem?_append_right (by omega)]; simp [hl]
  · rw [List.getElem?_append_right (by omega)]; simp [hl]
def RowAt (w : World) (g cap : Nat) (e : TypeId) (xs : List Vx) : Prop :=
  ∃ tl : List Value, w.heap[g]? = some (.cells (flatV xs ++ tl).toArray e (0, 0)) ∧ xs.length ≤ cap ∧ cap ≤ maxLen ∧ (flatV xs ++ tl).length = cap * 2
abbrev rowV (g cap : Nat) (xs : List Vx) : Value := .slice (some ⟨g, 0, none⟩) xs.length cap
theorem ownK_rowAt {e : TypeId} {I : Nat → Prop} {w : World} {g cap : Nat} {xs : List Vx} : OwnK 0 e 2 RV I w (rowV g cap xs) xs ↔ RowAt w g cap e xs := by
  constructor
  · rintro ⟨us, h1, h2, h0, h3, h4⟩
    have hus := us_encV h1 h4
    subst hus
    obtain ⟨hfl, hv⟩ := h3
    rcases hv with ⟨hz, _⟩ | ⟨g', cap', cur, hv, hB, hg, hc1, hc2, hc3, hc4⟩
    · cases hz
    · cases hv
      refine ⟨cur.toList.drop (xs.length * 2), ?_, hc1, hc2, ?_⟩
      · have : flatV xs ++ cur.toList.drop (xs.length * 2) = cur.toList := by
          unfold flatV; rw [← hc4, List.take_append_drop]
        rw [this]; exact hg
      · have : flatV xs ++ cur.toList.drop (xs.length * 2) = cur.toList := by
          unfold flatV; rw [← hc4, List.take_append_drop]
        rw [this]; simpa using hc3
  · rintro ⟨tl, hg, hc1, hc2, hc3⟩
    refine ⟨xs.map encV, by simp, fun u hu => ?_, by decide, ⟨?_, .inr ⟨g, cap, _, rfl, Nat.zero_le _, hg, hc1, hc2, by simpa using hc3, ?_⟩⟩, fun k h h' => ?_⟩
    · obtain ⟨y, _, rfl⟩ := List.mem_map.1 hu
      exact ⟨rfl, by simp [encV, Value.oneCell']⟩
    · exact flatV_len xs
    · show (flatV xs ++ tl).take (xs.length * 2) = flatV xs
      rw [← flatV_len xs, List.take_left']
      rfl
    · show Value.agg _ = _
      rw [List.getElem_map]
      rfl
theorem heap_setCells_mid {g : Nat} {e : TypeId} {fz : Nat × Nat} : ∀ (vs M A C : List Value) (w : World), M.length = vs.length → w.heap[g]? = some (.cells (A ++ M ++ C).toArray e fz) → (w.setCells g A.length vs).heap[g]? = some (.cells (A ++ vs ++ C).toArray e fz)
  | [], M, A, C, w, h, hg => by
    have : M = [] := List.eq_nil_of_length_eq_zero (by simpa using h)
    subst this; exact hg
  | v :: r, [], A, C, w, h, hg => by simp at h
  | v :: r, m :: M, A, C, w, h, hg => by
    have hg' : (w.setCell ⟨g, A.length, none⟩ v).heap[g]? = some (.cells ((A ++ [v]) ++ M ++ C).toArray e fz) := by
      simp only [World.setCell, Array.getElem?_modify, if_true, hg, Option.map_some]
      simp
    have := heap_setCells_mid r M (A ++ [v]) C _ (by simpa using h) hg'
    rw [World.setCells]
    have e1 : (A ++ [v]).length = A.length + 1 := by simp
    rw [e1] at this
    rw [this]; simp
theorem row_grown {w : World} {g o : Nat} {vs : List Value} : w.grownBy (w.setCells g o vs) (some g) := by
  refine ⟨World.os_setCells w g o vs, ?_, World.output_setCells w g o vs, ?_, fun k hk hne => World.heap_setCells_other w g o vs hk fun e => hne (by rw [e])⟩
  · revert o w
    induction vs with
    | nil => intros; rfl
    | cons v r ih => intro w o; rw [World.setCells]; exact ih
  · revert o w
    induction vs with
    | nil => intros; exact Nat.le_refl _
    | cons v r ih =>
      intro w o; rw [World.setCells]
      refine Nat.le_trans ?_ ih
      simp [World.setCell]
theorem row_cell {w : World} {g cap : Nat} {e : TypeId} {xs : List Vx} (h : RowAt w g cap e xs) (j : Nat) (hj : j < xs.length * 2) : w.cell? ⟨g, j, none⟩ = (flatV xs)[j]? ∧ w.frozen? ⟨g, j, none⟩ = false := by
  obtain ⟨tl, hg, _⟩ := h
  refine ⟨?_, by simp [World.frozen?, hg]⟩
  simp only [World.cell?, hg]
  simp only [Option.isSome_none, Bool.false_eq_true, if_false]
  rw [List.getElem?_toArray, List.getElem?_append_left (by rw [flatV_len]; exact hj)]
section
variable {P : Program} {ops : Array Oper} {hp : List HObj} {o : Oper} {fr : List Dat} {d : Dat} {Q : Post} {rest : List Oper}
variable {dst : Option Tmp} {ty : TypeId} {ps : String} {af : Array Edge} {g : Option (Nat × Bool)} {b cap : Nat} {e t T : TypeId} {xs : List Vx} {bytes : Nat} {z : Value} {ag : Bool}
abbrev hV (b N cap : Nat) (e : TypeId) (xs : List Vx) : HObj := hRowK (.slice (some ⟨b, 0, none⟩) N cap) e 2 RV xs
theorem hV_row {I : Nat → Prop} {w : World} {N : Nat} : (hV b N cap e xs).ok I w ↔ N = xs.length ∧ RowAt w b cap e xs := by
  constructor
  · intro h
    have hN : N = xs.length := by
      obtain ⟨us, h1, h2, h0, ⟨_, h3⟩, h4⟩ := h
      rcases h3 with ⟨hz, _⟩ | ⟨g, cap, cur, hv, _⟩
      · cases hz
      · cases hv; rfl
    subst hN
    exact ⟨rfl, ownK_rowAt.1 h⟩
  · rintro ⟨rfl, h⟩
    exact ownK_rowAt.2 h
theorem SY.fromO {x y : Operand} {off n m l : Nat} {j : Int} (E : ElT P t e 2 z bytes ag) (hx : OpD fr x (dX (.slice (some ⟨b, off, none⟩) n m))) (hy : OpD fr y (dI j)) (hj : j = (l : Int)) (hl : l < n) (hm : n ≤ m) :
    SY P ops hp { dst := dst, op := .slice t x (some y) none none, type := ty, pos := ps, after := af, guard := g } fr (dX (.slice (some ⟨b, off + l * 2, none⟩) (n - l) (m - l))) := SY.val fun {I w a} ho => by
  have h1 : a.eval x = _ := hx.get (by simp [Op.operands]) ho
  have h2 : a.eval y = _ := hy.get (by simp [Op.operands]) ho
  refine ⟨_, ?_, rfl⟩
  have hr := run_slice (w := w) (ad := some ⟨b, off, none⟩) (len := n) (cap := m) (lo := some (.int .i64 (l : Int))) (hi := none) (l := l) (h := n) E (.inr ⟨_, rfl⟩) (.inl ⟨rfl, rfl⟩) (by omega) hm
  rw [if_neg (by omega)] at hr
  unfold execOp
  simp only [h1, h2, hj, Option.map_none, Option.map_some, Sem.run_bind, hr, Result.andThen_ok, Sem.run_pure]
  simp [Addr.add_lit]
theorem WC.cutO {c : Code} {N k : Nat} (hk : k ≤ xs.length) (h : WC P Q c fr (hV b k cap e (xs.take k) :: hp)) : WC P Q c fr (hV b N cap e xs :: hp) := WC.of fun P0 B w0 w a hh hf => by
  obtain ⟨hN, tl, hg, hc1, hc2, hc3⟩ := hV_row.1 (hh.ok (hV b N cap e xs) (by simp))
  have hgr : w.grownBy w (hV b N cap e xs).blk := ⟨rfl, rfl, rfl, Nat.le_refl _, fun _ _ _ => rfl⟩
  have e1 : flatV xs ++ tl = flatV (xs.take k) ++ (flatV (xs.drop k) ++ tl) := by rw [← List.append_assoc, ← flatV_app, List.take_append_drop]
  have hok : (hV b k cap e (xs.take k)).ok (fun j => Imm P0 B (hV b N cap e xs :: hp) j ∧ j < w.heap.size) w :=
    hV_row.2 ⟨by simp; omega, flatV (xs.drop k) ++ tl, by rw [← e1]; exact hg, by simp; omega, hc2, by rw [← e1]; exact hc3⟩
  exact h.on (hh.write hgr (.inl rfl) hok) (hf.mono fun _ _ hd => Hp.written (o' := hV b k cap e (xs.take k)) hgr (.inl rfl) hd)
end
end Go.Proofs.Ytkedmlandjlogaa
namespace Go.Proofs.Ytkedmlandjlogaa
open Go.RowKit
structure InC (P : Program) (f : FuncId) (ds : List Dat) (hp1 : List HObj) (K : Dat → List HObj → Prop) : Prop where
  out : ∀ hp : List HObj, ∃ (fn : Func) (c : Code) (t : Tmp), P.funcs[f]? = some fn ∧ fn.body = some c ∧ fn.results = #[.tmp t] ∧ ∀ gh : HObj, gh.blk = none → WC P (finI t K gh hp) c (ds ++ List.replicate (fn.ntmps - ds.length) (dX undef)) (hp1 ++ gh :: hp)
section
variable {P : Program} {ops : Array Oper} {hp : List HObj} {o : Oper} {fr : List Dat} {d : Dat} {Q : Post} {rest : List Oper}
variable {dst : Option Tmp} {ty : TypeId} {ps : String} {af : Array Edge} {g : Option (Nat × Bool)}
theorem InC.intro {f : FuncId} {fn : Func} {c : Code} {t : Tmp} {ds : List Dat} {hp1 : List HObj} {K : Dat → List HObj → Prop} (hf : P.funcs[f]? = some fn) (hb : fn.body = some c) (hr : fn.results = #[.tmp t])
    (h : ∀ (hp : List HObj) (gh : HObj), gh.blk = none → WC P (finI t K gh hp) c (ds ++ List.replicate (fn.ntmps - ds.length) (dX undef)) (hp1 ++ gh :: hp)) : InC P f ds hp1 K := ⟨fun hp => ⟨fn, c, t, hf, hb, hr, h hp⟩⟩
theorem WL.nilRowK {α : Type} (e : TypeId) (n : Nat) (hn : 0 < n) (R : Rel α) [Good R] (h : WL P ops Q rest fr (hRowK (.slice none 0 0) e n R ([] : List α) :: hp)) : WL P ops Q rest fr hp := WL.of fun _ _ _ _ _ hh hf =>
  h.on (hh.push (Ext.refl _) (by simp [hRowK, Value.ownBlock]) (OwnK.nil hn)) (hf.mono fun _ _ hd => Hp.pushed (Ext.refl _) (by simp [hRowK, Value.ownBlock]) hd)
end
end Go.Proofs.Ytkedmlandjlogaa
namespace Go.Proofs.Ytkedmlandjlogaa
open Go.RowKit
theorem want_undef {ops : Array Oper} {o : Oper} {fr : List Dat} {gi : Nat} {pol : Bool} {t : Tmp} (hg : o.guard = some (gi, pol)) (ht : (ops[gi]?).bind (·.dst) = some t) (hf : fr[t]? = some (dX undef)) : WantS ops o fr false := WantS.mk fun I w a ho => by
  have h1 : a.tmps.getD t undef = undef := ho.2 t (guard_mem hg ht) _ hf
  have hlt : t < a.tmps.size := by rw [ho.1]; exact (List.getElem?_eq_some_iff.1 hf).1
  have h2 : a.tmps[t]? = some undef := by
    rw [Array.getD_eq_getD_getElem?] at h1
    rw [Array.getElem?_eq_getElem hlt] at h1 ⊢
    simpa using h1
  simp [Region.wanted, hg, yielded, ht, h2, undef]
end Go.Proofs.Ytkedmlandjlogaa
namespace Go.Proofs.Ytkedmlandjlogaa.I
open Go.RowKit
theorem oper_wide {P : Program} {o : Oper} {a : Act} {w : World} {K : Act → World → Prop} {Q : Exit → Act → World → Prop} (h : o.wp P a w K Q) : o.wpIn Fence.wide 0 P a w K Q := by
  refine ⟨fun _ _ => trivial, ?_⟩
  show o.uponIn Fence.wide 0 P a K Q ((execOp a.eval o).run P w)
  unfold Oper.wp at h
  revert h
  generalize (execOp a.eval o).run P w = r
  intro h
  unfold Oper.upon at h
  unfold Oper.uponIn
  split at h
  · exact h
  · exact h
  · exact h
  · exact ⟨fun h => by simp [Fence.wide] at h, callsIn_wide.2 h⟩
  · exact ⟨fun h => by simp [Fence.wide] at h, fun c cs _ => let ⟨v, w2, r, s⟩ := h c cs; ⟨v, w2, r, stepsIn_wide.2 s⟩⟩
  · exact h
  · exact h.elim
theorem wpListIn_plainW {P : Program} {ops : Array Oper} {Q : Exit → Act → World → Prop} {rest : List Oper} {o : Oper} {a : Act} {w : World} (hg : o.guard = none)
    (h : ∀ K : Act → World → Prop, (∀ a w, wpListIn Fence.wide 0 P ops Q rest a w → K a w) → o.wp P a w K Q) : wpListIn Fence.wide 0 P ops Q (o :: rest) a w :=
  wpListIn_plain hg fun K hK => oper_wide (h K hK)
end Go.Proofs.Ytkedmlandjlogaa.I
