/-
  Part 19 of the texts that the claims of this seat lean on: walks of the program's functions by contracts over symbolic frames, and plain laws of what they compute. No condition.
-/
import Derived.Ground.NamesProg
import Derived.Ground.SlsfProg
import Derived.Shelf.SlSortCmp.NoneTotal
import Derived.Shelf.SlSortCmp.Whole1
import Derived.Test.YtmlikmldfdgmcaaGreatProg
import Derived.Test.YtmlikmldfdgmcaaGreatVp10
import Derived.Test.YtmlikmldfdgmcaaGreatVp15
import Derived.Test.YtmlikmldfdgmcaaGreatVp16
import Derived.Test.YtmlikmldfdgmcaaGreatVp17
import Derived.Test.YtmlikmldfdgmcaaGreatVp18
set_option linter.unusedVariables false
set_option linter.unusedSimpArgs false
set_option linter.unusedSectionVars false
namespace Go.Proofs.YtmlikmldfdgmcaaGreat
abbrev CntM := List (List Vx × Int)
def addC (m : CntM) (f : List Vx) : CntM := putM m f ((lookM m f).getD 0 + 1)
def cntM (fs : Cx) : CntM := fs.foldl addC []
theorem lookM_keys {K V : Type} [DecidableEq K] {m : List (K × V)} {x : K} : (lookM m x).isSome = true ↔ x ∈ m.map (·.1) := by
  unfold lookM
  rw [Option.isSome_map, List.find?_isSome, List.mem_map]
  constructor
  · rintro ⟨p, hp, h⟩; exact ⟨p, hp, by simpa using h⟩
  · rintro ⟨p, hp, h⟩; exact ⟨p, hp, by simpa using h⟩
theorem putM_keys {K V : Type} [DecidableEq K] {m : List (K × V)} {x : K} {v : V} (hn : (m.map (·.1)).Nodup) : ((putM m x v).map (·.1)).Nodup ∧ ∀ u, u ∈ (putM m x v).map (·.1) ↔ u = x ∨ u ∈ m.map (·.1) := by
  unfold putM
  split
  · rename_i h
    have e : (m.map fun p => if p.1 = x then (x, v) else p).map (·.1) = m.map (·.1) := by
      rw [List.map_map]
      refine List.map_congr_left fun p _ => ?_
      show (if p.1 = x then (x, v) else p).1 = p.1
      split
      · rename_i h; exact h.symm
      · rfl
    rw [e]
    refine ⟨hn, fun u => ⟨.inr, ?_⟩⟩
    rintro (rfl | hu)
    · exact lookM_keys.1 h
    · exact hu
  · rename_i h
    have hx : x ∉ m.map (·.1) := fun hx => h (lookM_keys.2 hx)
    rw [List.map_append]
    refine ⟨?_, fun u => ?_⟩
    · rw [List.nodup_append]
      refine ⟨hn, by simp, fun a ha b hb => ?_⟩
      have : b = x := by simpa using hb
      subst this
      intro hab
      subst hab
      exact hx ha
    · rw [List.mem_append]
      simp only [List.map_cons, List.map_nil, List.mem_singleton]
      exact or_comm
theorem cntM_keys (fs : Cx) : ((cntM fs).map (·.1)).Nodup ∧ ∀ u, u ∈ (cntM fs).map (·.1) ↔ u ∈ fs := by
  have go : ∀ (fs : Cx) (m : CntM), (m.map (·.1)).Nodup → ((fs.foldl addC m).map (·.1)).Nodup ∧ ∀ u, u ∈ (fs.foldl addC m).map (·.1) ↔ u ∈ fs ∨ u ∈ m.map (·.1) := by
    intro fs
    induction fs with
    | nil => intro m hm; exact ⟨hm, fun u => by simp⟩
    | cons f fs ih =>
      intro m hm
      obtain ⟨h1, h2⟩ := putM_keys (x := f) (v := (lookM m f).getD 0 + 1) hm
      obtain ⟨h3, h4⟩ := ih (addC m f) h1
      refine ⟨h3, fun u => ?_⟩
      show u ∈ (fs.foldl addC (addC m f)).map (·.1) ↔ _
      rw [h4]
      unfold addC
      rw [h2, List.mem_cons]
      constructor
      · rintro (h | h | h) <;> simp [h]
      · rintro ((h | h) | h) <;> simp [h]
  have := go fs [] (by simp)
  exact ⟨this.1, fun u => by rw [cntM, this.2]; simp⟩
theorem cntM_count (fs : Cx) (f : List Vx) : (lookM (cntM fs) f).getD 0 = (fs.count f : Int) := by
  have go : ∀ (fs : Cx) (m : CntM), (lookM (fs.foldl addC m) f).getD 0 = (lookM m f).getD 0 + (fs.count f : Int) := by
    intro fs
    induction fs with
    | nil => intro m; simp
    | cons g fs ih =>
      intro m
      rw [List.foldl_cons, ih]
      unfold addC
      rw [lookM_putM, List.count_cons]
      by_cases h : f = g
      · subst h
        rw [if_pos rfl]
        simp; omega
      · rw [if_neg h]
        have : (g == f) = false := by simpa using Ne.symm h
        simp [this]
  have := go fs []
  rw [cntM, this]
  simp [lookM]
theorem cntM_at (fs : Cx) {j : Nat} (h : j < (cntM fs).length) : (cntM fs)[j].2 = (fs.count (cntM fs)[j].1 : Int) := by
  have := cntM_count fs (cntM fs)[j].1
  rw [lookM_some (cntM_keys fs).1 h] at this
  exact this
def fcsC (l : Cx) (d : Nat) : Cx := (l.map (subsV d)).flatten
theorem fcsC_snoc {l : Cx} {d i : Nat} (h : i < l.length) : fcsC (l.take (i + 1)) d = fcsC (l.take i) d ++ subsV d l[i] := by
  unfold fcsC
  rw [take_snoc' h, List.map_append, List.flatten_append]
  simp
theorem fcsC_mem {l : Cx} {d : Nat} {f : List Vx} : f ∈ fcsC l d ↔ f ∈ allC l d := by
  unfold fcsC
  rw [List.mem_flatten, allC_mem]
  constructor
  · rintro ⟨x, hx, hf⟩
    obtain ⟨s, hs, rfl⟩ := List.mem_map.1 hx
    exact ⟨s, hs, hf⟩
  · rintro ⟨s, hs, hf⟩
    exact ⟨_, List.mem_map_of_mem hs, hf⟩
theorem fcsC_len {l : Cx} {d : Nat} (h : ∀ s ∈ l, s.length ≤ 8) : ∀ n, n ≤ l.length → (fcsC (l.take n) d).length ≤ 256 * n
  | 0, _ => by simp [fcsC]
  | n + 1, hn => by
    rw [fcsC_snoc (by omega), List.length_append]
    have h1 := fcsC_len (d := d) h n (by omega)
    have h2 := Nat.le_trans (subsV_len d l[n]) (Nat.pow_le_pow_right (by decide) (h _ (List.getElem_mem (show n < l.length by omega))) : 2 ^ l[n].length ≤ 2 ^ 8)
    omega
theorem sub_inside {f s : List Vx} (hf : Asc f) (hs : Asc s) : f.Sublist s ↔ insideV f s = true := by
  constructor
  · intro h
    unfold insideV
    rw [List.all_eq_true]
    intro x hx
    simpa using h.subset hx
  · intro h
    have hsub : ∀ x ∈ f, x ∈ s := fun x hx => by
      have := List.all_eq_true.1 h x hx
      simpa using this
    have e : sharedV s f true = f := asc_ext (asc_shared hs) hf fun x => by
      rw [mem_shared]
      constructor
      · intro ⟨_, h⟩; simpa using h
      · intro hx; exact ⟨hsub x hx, by simpa using hx⟩
    rw [← e]; exact shared_sub
theorem subs_nodup {s : List Vx} (h : Asc s) (d : Nat) : (subsV d s).Nodup := List.Pairwise.imp (fun {a b} hab hc => by
  subst hc; rw [cmpL_irr] at hab; omega) (subsV_sorted d s h)
theorem count_le_one : ∀ {l : Cx}, l.Nodup → ∀ f, l.count f ≤ 1
  | [], _, f => by simp
  | x :: l, h, f => by
    rw [List.nodup_cons] at h
    rw [List.count_cons]
    by_cases hx : x = f
    · subst hx
      rw [List.count_eq_zero.2 h.1]; simp
    · have : (x == f) = false := by simpa using hx
      rw [this]
      have := count_le_one h.2 f
      simpa using this
theorem count_subs {s f : List Vx} {d : Nat} (hs : Asc s) : (subsV d s).count f = if f ∈ subsV d s then 1 else 0 := by
  split
  · rename_i h
    have h1 : 0 < (subsV d s).count f := List.count_pos_iff.2 h
    have h2 := count_le_one (subs_nodup hs d) f
    omega
  · rename_i h; exact List.count_eq_zero.2 h
theorem count_fcs : ∀ {l : Cx} {d : Nat} {f : List Vx}, (∀ s ∈ l, Asc s) → Asc f → f.length = d → (fcsC l d).count f = (aroundC l f).length
  | [], d, f, _, _, _ => by simp [fcsC, aroundC]
  | s :: l, d, f, hs, hf, hd => by
    have e : fcsC (s :: l) d = subsV d s ++ fcsC l d := by unfold fcsC; simp
    rw [e, List.count_append, count_subs (hs s (by simp)), count_fcs (fun x hx => hs x (by simp [hx])) hf hd]
    have h1 : f ∈ subsV d s ↔ insideV f s = true := by
      rw [subsV_mem, ← sub_inside hf (hs s (by simp))]
      exact ⟨fun h => h.1, fun h => ⟨h, hd⟩⟩
    unfold aroundC
    by_cases hi : insideV f s = true
    · rw [if_pos (h1.2 hi), List.filter_cons_of_pos (by simpa using hi), List.length_cons]; omega
    · rw [if_neg (fun h => hi (h1.1 h)), List.filter_cons_of_neg (by simpa using hi)]; omega
def bndP (l : Cx) : Cx × Int := if chkC l ≠ 0 then ([], chkC l) else if dimC l < 1 ∨ sizeP l = false then ([], 15) else if (allC l (dimC l).toNat).all (okC l) = true then ((allC l (dimC l).toNat).filter (oneC l), 0) else ([], 15)
theorem max_same {l : Cx} {d : Nat} (h : ∀ s ∈ l, s.length = d) (hd : 0 < d) {zs : Cx} (ha : AscL zs) (hm : ∀ x, x ∈ zs ↔ x ∈ l) : maxC l = zs := by
  refine ascL_ext (maxC_asc l) ha fun x => ?_
  rw [maxC_mem, hm]
  constructor
  · exact fun h => h.1
  · intro hx
    refine ⟨hx, ?_⟩
    unfold topC
    rw [h x hx, decide_eq_true hd, Bool.true_and, Bool.not_eq_true', Bool.eq_false_iff]
    intro hc
    obtain ⟨y, hy, hl, _⟩ := coveredC_iff.1 hc
    rw [h x hx, h y hy] at hl
    omega
theorem pure_len {l : Cx} (h : sizeP l = true) : ∀ s ∈ l, (s.length : Int) = dimC l + 1 := fun s hs => by
  obtain ⟨m1, m2⟩ := most_max l
  have h1 := m1 s hs
  have h3 := most_dim l
  rcases m2 with m2 | ⟨t, ht, m2⟩
  · omega
  · have := sizeP_iff.1 h s hs t ht
    omega
theorem fcs_pure {l : Cx} {d : Nat} (h : ∀ s ∈ l, s.length = d + 1) : (fcsC l d).length = l.length * (d + 1) := by
  induction l with
  | nil => simp [fcsC]
  | cons s l ih =>
    have e : fcsC (s :: l) d = subsV d s ++ fcsC l d := by unfold fcsC; simp
    rw [e, List.length_append, ih (fun x hx => h x (by simp [hx])), subsV_most (h s (by simp)), List.length_cons, Nat.succ_mul]
    omega
end Go.Proofs.YtmlikmldfdgmcaaGreat
namespace Go.Proofs
open Go.Shelf
def Tryz.sortS_ren : Go.Shelf.Ren := ⟨fun | 6 => 48 | 15 => 78 | 14 => 77 | 28 => 96 | 29 => 97 | 20 => 88 | 21 => 89 | 22 => 90 | 23 => 91 | 24 => 92 | 25 => 93 | 26 => 94 | 27 => 95 | 46 => 107 | 47 => 108 | 48 => 109 | 49 => 110 | 50 => 111 | 57 => 115 | n => n, fun | 22 => 22 | 24 => 34 | 25 => 54 | 3 => 3 | 39 => 116 | 0 => 0 | 53 => 133 | 55 => 135 | 4 => 4 | 46 => 127 | 45 => 126 | 50 => 57 | 5 => 5 | 9 => 9 | 66 => 141 | 70 => 145 | 76 => 149 | 77 => 150 | n => n, fun | n => n⟩
theorem Tryz.sortS : Go.Proofs.SlLaysF.n6 Tryz.prog Tryz.sortS_ren := {
  mixed := by kernel_rfl
  f6 := ⟨Tryz.f48.name, by decide, Tryz.func48.trans (congrArg some (by kernel_rfl))⟩
  f14 := ⟨Tryz.f77.name, by decide, Tryz.func77.trans (congrArg some (by kernel_rfl))⟩
  f15 := Tryz.func78.trans (congrArg some (by kernel_rfl))
  f20 := ⟨Tryz.f88.name, by decide, Tryz.func88.trans (congrArg some (by kernel_rfl))⟩
  f21 := ⟨Tryz.f89.name, by decide, Tryz.func89.trans (congrArg some (by kernel_rfl))⟩
  f22 := ⟨Tryz.f90.name, by decide, Tryz.func90.trans (congrArg some (by kernel_rfl))⟩
  f23 := ⟨Tryz.f91.name, by decide, Tryz.func91.trans (congrArg some (by kernel_rfl))⟩
  f24 := ⟨Tryz.f92.name, by decide, Tryz.func92.trans (congrArg some (by kernel_rfl))⟩
  f25 := ⟨Tryz.f93.name, by decide, Tryz.func93.trans (congrArg some (by kernel_rfl))⟩
  f26 := ⟨Tryz.f94.name, by decide, Tryz.func94.trans (congrArg some (by kernel_rfl))⟩
  f27 := ⟨Tryz.f95.name, by decide, Tryz.func95.trans (congrArg some (by kernel_rfl))⟩
  f28 := Tryz.func96.trans (congrArg some (by kernel_rfl))
  f29 := Tryz.func97.trans (congrArg some (by kernel_rfl))
  f46 := ⟨Tryz.f107.name, by decide, Tryz.func107.trans (congrArg some (by kernel_rfl))⟩
  f47 := Tryz.func108.trans (congrArg some (by kernel_rfl))
  f48 := Tryz.func109.trans (congrArg some (by kernel_rfl))
  f49 := ⟨Tryz.f110.name, by decide, Tryz.func110.trans (congrArg some (by kernel_rfl))⟩
  f50 := ⟨Tryz.f111.name, by decide, Tryz.func111.trans (congrArg some (by kernel_rfl))⟩
  f57 := ⟨Tryz.f115.name, by decide, Tryz.func115.trans (congrArg some (by kernel_rfl))⟩
  t0 := Tryz.underlying0
  a0 := Tryz.isAgg0
  z0 := Tryz.sizeOf0
  v0 := Tryz.zeroValue0
  t3 := Tryz.underlying3
  a3 := Tryz.isAgg3
  z3 := Tryz.sizeOf3
  v3 := Tryz.zeroValue3
  t4 := Tryz.underlying4
  a4 := Tryz.isAgg4
  z4 := Tryz.sizeOf4
  v4 := Tryz.zeroValue4
  t5 := Tryz.underlying5
  a5 := Tryz.isAgg5
  z5 := Tryz.sizeOf5
  v5 := Tryz.zeroValue5
  t9 := Tryz.underlying9
  a9 := Tryz.isAgg9
  z9 := Tryz.sizeOf9
  v9 := Tryz.zeroValue9
  t22 := Tryz.underlying22
  a22 := Tryz.isAgg22
  z22 := Tryz.sizeOf22
  v22 := Tryz.zeroValue22
  a24 := Tryz.isAgg34
  z24 := Tryz.sizeOf34
  t25 := Tryz.underlying54
  a25 := Tryz.isAgg54
  z25 := Tryz.sizeOf54
  v25 := Tryz.zeroValue54
  t39 := Tryz.underlying116
  a39 := Tryz.isAgg116
  z39 := Tryz.sizeOf116
  v39 := Tryz.zeroValue116
  t45 := Tryz.underlying126
  a45 := Tryz.isAgg126
  z45 := Tryz.sizeOf126
  v45 := Tryz.zeroValue126
  t46 := Tryz.underlying127
  a46 := Tryz.isAgg127
  z46 := Tryz.sizeOf127
  v46 := Tryz.zeroValue127
  t50 := Tryz.underlying57
  a50 := Tryz.isAgg57
  z50 := Tryz.sizeOf57
  v50 := Tryz.zeroValue57
  t53 := Tryz.underlying133
  a53 := Tryz.isAgg133
  z53 := Tryz.sizeOf133
  v53 := Tryz.zeroValue133
  t55 := Tryz.underlying135
  a55 := Tryz.isAgg135
  z55 := Tryz.sizeOf135
  v55 := Tryz.zeroValue135
  t66 := Tryz.underlying141
  a66 := Tryz.isAgg141
  z66 := Tryz.sizeOf141
  v66 := Tryz.zeroValue141
  t70 := Tryz.underlying145
  a70 := Tryz.isAgg145
  z70 := Tryz.sizeOf145
  v70 := Tryz.zeroValue145
  t76 := Tryz.underlying149
  a76 := Tryz.isAgg149
  z76 := Tryz.sizeOf149
  v76 := Tryz.zeroValue149
  t77 := Tryz.underlying150
  a77 := Tryz.isAgg150
  z77 := Tryz.sizeOf150
  v77 := Tryz.zeroValue150 }
end Go.Proofs
namespace Go.Proofs.YtmlikmldfdgmcaaGreat
open Go.RowKit Go.Sort Go.Shelf
section
variable {w : World} {g n cap : Nat} {os : Array Obj} {cur : Array Value} {e : TypeId} {fz : Nat × Nat} {α : Type} [Inhabited α] {enc : α → Value}
theorem grownBy_sorted1 (d : Array α) : w.grownBy (sortWorld enc w g 0 n d os) (some g) := by
  refine ⟨rfl, rfl, rfl, by simp [sortWorld], fun k hk hne => ?_⟩
  unfold sortWorld
  rw [heap_grow_old _ _ (by simpa using hk)]
  have : g ≠ k := fun e => hne (by rw [e])
  simp [putRow, mapBlock, Sort.ahead, Array.getElem?_modify, this]
theorem heap_sorted1 (d : Array α) (hb : w.heap[g]? = some (.cells cur e fz)) :
    (sortWorld enc w g 0 n d os).heap[g]? = some (.cells (putCells enc 0 d cur) e fz) := by
  have hg : g < w.heap.size := (Array.getElem?_eq_some_iff.1 hb).1
  unfold sortWorld
  rw [heap_grow_old _ _ (by simpa using hg)]
  simp [putRow, mapBlock, Sort.ahead, Array.getElem?_modify, hb, onCells]
theorem holds_of_row1 {d : Array α} (hb : w.heap[g]? = some (.cells cur e (0, 0))) (ht : cur.toList.take d.size = d.toList.map enc) : Holds enc w g 0 d := by
  intro j hj
  refine ⟨?_, by simp [World.frozen?, hb]⟩
  have h1 : (cur.toList.take d.size)[j]? = (d.toList.map enc)[j]? := by rw [ht]
  rw [List.getElem?_take_of_lt hj] at h1
  simp only [World.cell?, hb, Nat.zero_add]
  simp only [Option.isSome_none, Bool.false_eq_true, if_false]
  rw [← Array.getElem?_toList, h1, getElem!_pos _ j hj]
  simp [hj]
theorem take_putCells1 (cur : Array Value) (d : Array α) (h : d.size ≤ cur.size) : (putCells enc 0 d cur).toList.take d.size = d.toList.map enc := by
  apply List.ext_getElem?
  intro j
  by_cases hj : j < d.size
  · rw [List.getElem?_take_of_lt hj, Array.getElem?_toList]
    simp [putCells, hj, show j < cur.size by omega]
  · rw [List.getElem?_take_eq_none (by omega), List.getElem?_eq_none (by simp; omega)]
end
theorem cmpL_lt_trans0 {a b c : List Vx} (h : cmpL a b < 0) (k : cmpL b c < 0) : cmpL a c < 0 := by
  obtain ⟨h1, h2⟩ := cmpL_trans a b c (by omega) (by omega)
  rcases Int.lt_or_eq_of_le h1 with h3 | h3
  · exact h3
  · have := h2 h3; omega
theorem swoL {α : Type} (f : α → List Vx) : SWO (ltOf fun x y : α => cmpL (f x) (f y)) where
  irrefl x := by simp [ltOf, cmpL_eq.2 (rfl : f x = f x)]
  trans x y z h h' := by
    simp only [ltOf, decide_eq_true_eq] at *
    exact cmpL_lt_trans0 h h'
  ntrans x y z h h' := by
    simp only [ltOf, decide_eq_false_iff_not] at *
    have e1 := cmpL_neg (f x) (f y)
    have e2 := cmpL_neg (f y) (f z)
    have e3 := cmpL_neg (f x) (f z)
    have := (cmpL_trans (f z) (f y) (f x) (by omega) (by omega)).1
    omega
section
variable {ops : Array Oper} {hp : List HObj} {fr : List Dat} {Q : Post} {rest : List Oper} {dst : Option Tmp} {ty : TypeId} {ps : String} {af : Array Edge}
theorem WL.sortS {x : Operand} {v : Value} {e : TypeId} {xs : List (List Vx)} {ats : Array TypeId} (hx : OpD fr x (dX v)) (hlen : xs.length < 4611686018427387904)
    (h : ∀ ys : List (List Vx), ys.Perm xs → ys.Pairwise (fun a b => ¬ cmpL b a < 0) → WL Tryz.prog ops Q rest (setD fr dst dA) (hRow v e Verts ys :: hp)) :
    WL Tryz.prog ops Q ({ dst := dst, op := .call { callee := .value (.func 48), args := #[x, .func 42], argTypes := ats }, type := ty, pos := ps, after := af, guard := none } :: rest) fr (hRow v e Verts xs :: hp) := by
  refine WL.of fun P0 B w0 w a hh hf => ?_
  have hok := hh.ok (hRow v e Verts xs) (by simp)
  obtain ⟨us, h1, h2, h3⟩ := hok
  have hev : a.eval x = v := hx.ev hf
  obtain ⟨hfl, hv⟩ := h2
  have hrun : (execOp a.eval { dst := dst, op := .call { callee := .value (.func 48), args := #[x, .func 42], argTypes := ats }, type := ty, pos := ps, after := af, guard := none }).run Tryz.prog w = .ok (.enter 48 #[v, .func (.func 42) #[] #[]]) w := by
    unfold execOp
    simp only [resolve]
    have he : (#[x, Operand.func 42] : Array Operand).map a.eval = #[v, .func (.func 42) #[] #[]] := by simp [hev]; rfl
    rw [he]
    simp [Act.eval, Deferred.ofValue, invoke, Tryz.call48]
  by_cases hne : xs = []
  · subst hne
    have hv0 : ∃ p cap, v = .slice p 0 cap := by
      rcases hv with ⟨hv, _⟩ | ⟨g, cap, cur, hv, _⟩
      · exact ⟨_, _, hv⟩
      · exact ⟨_, _, hv⟩
    obtain ⟨p, cap, hv0⟩ := hv0
    have hcon := AnyF.slices_SortFunc_none (P := Tryz.prog) (ρ := Tryz.sortS_ren) { Tryz.sortS with } p cap (.func (.func 42) #[] #[]) w
    change Calls Tryz.prog 48 _ _ _ at hcon
    refine wpList_plain rfl fun K hK => ?_
    unfold Oper.wp
    rw [hrun, hv0]
    refine hcon.mono fun e' w' ⟨he, hw'⟩ => ?_
    subst he
    subst hw'
    exact hK _ _ ((h [] (List.Perm.refl _) List.Pairwise.nil).on hh (hf.put (d := dA) trivial))
  have hpos : 0 < xs.length := List.length_pos_iff.2 hne
  rcases hv with ⟨_, hz⟩ | ⟨g, cap, cur, hv, hB, hg, hc1, hc2, hc3, hc4⟩
  · omega
  have hgb : g < w.heap.size := (Array.getElem?_eq_some_iff.1 hg).1
  let J : Nat → Prop := fun b => Imm P0 B (hRow v e Verts xs :: hp) b ∧ v.ownBlock ≠ some b
  let α := {p : Value × List Vx // p.1.oneCell' = true ∧ Verts J w p.1 p.2}
  let at0 : Fin xs.length → α := fun k => ⟨(us[k.1]'(by omega), xs[k.1]), h3 k.1 (by omega) k.2⟩
  haveI : Inhabited α := ⟨at0 ⟨0, hpos⟩⟩
  let enc : α → Value := fun p => p.1.1
  let d : Array α := (List.ofFn at0).toArray
  have hds : d.size = xs.length := by simp [d]
  have hdu : d.toList.map enc = us := by
    apply List.ext_getElem (by simp [d, h1])
    intro k a b
    simp [d, enc, at0]
  have hdx : d.toList.map (fun p => p.1.2) = xs := by
    apply List.ext_getElem (by simp [d])
    intro k a b
    simp [d, at0]
  have hown : v.ownBlock = some g := by rw [hv]; rfl
  have hH : Holds enc w g 0 d := holds_of_row1 hg (by rw [hds, hdu]; simpa using hc4)
  have hgr : ∀ (d' : Array α) (n : Nat) (os : Array Obj), w.grownBy (sortWorld enc w g 0 n d' os) (hRow v e Verts xs).blk := fun d' n os => by
    show w.grownBy _ v.ownBlock
    rw [hown]; exact grownBy_sorted1 d'
  have hmove : ∀ (p : α) (d' : Array α) (n : Nat) (os : Array Obj), Verts (fun b => J b ∧ b < w.heap.size) (sortWorld enc w g 0 n d' os) p.1.1 p.1.2 := fun p d' n os =>
    Good.move (Good.bound p.2.2) fun k hk hlt => (hgr d' n os).block k hlt fun he => hk.1.2 he.symm
  have hcon := Any.slices_SortFunc Tryz.sortS enc (fun p => p.2.1) (fun p q => cmpL p.1.2 q.1.2) (swoL fun p : α => p.1.2) 42 #[] g 0 cap d w Tryz.call42
    (fun m os dk _ p q => M.cmpL_x (hmove p dk m os) (hmove q dk m os)) hH hgb (by rw [hds]; exact hlen)
  change Calls Tryz.prog 48 _ _ _ at hcon
  refine wpList_plain rfl fun K hK => ?_
  unfold Oper.wp
  rw [hrun]
  have hva : v = .slice (some ⟨g, 0, none⟩) d.size cap := by rw [hds]; exact hv
  rw [← hva] at hcon
  refine hcon.mono fun e' w' ⟨he, d', n, os, hp1, hs, hw'⟩ => ?_
  subst he
  subst hw'
  obtain ⟨q1, _, q3⟩ := hp1
  have hperm : d'.toList.Perm d.toList := by
    have e1 : d'.extract 0 d.size = d' := by rw [← q1]; simp
    have e2 : d.extract 0 d.size = d := by simp
    rw [e1, e2] at q3
    exact q3
  have hys : (d'.toList.map fun p => p.1.2).Perm xs := by
    have := hperm.map (fun p : α => p.1.2)
    rwa [hdx] at this
  have hsort : (d'.toList.map fun p => p.1.2).Pairwise (fun a b => ¬ cmpL b a < 0) := by
    rw [List.pairwise_map, List.pairwise_iff_getElem]
    intro i j hi hj hij
    have hi' : i < d'.size := by simpa using hi
    have hj' : j < d'.size := by simpa using hj
    have := hs i j (Nat.zero_le _) hij (by omega)
    rw [getElem!_pos d' i hi', getElem!_pos d' j hj'] at this
    simpa [ltOf] using this
  have hlen' : (d'.toList.map fun p => p.1.2).length = xs.length := by simp; omega
  have hok : (hRow v e Verts (d'.toList.map fun p => p.1.2)).ok (fun k => Imm P0 B (hRow v e Verts xs :: hp) k ∧ k < w.heap.size) (sortWorld enc w g 0 n d' os) := by
    refine ⟨d'.toList.map enc, by simp, ⟨by simp, .inr ⟨g, cap, putCells enc 0 d' cur, ?_, hB, heap_sorted1 _ hg, by omega, hc2, by simp [putCells, hc3], ?_⟩⟩, fun k a b => ?_⟩
    · rw [hlen']; exact hv
    · rw [hlen', Nat.mul_one, ← hds, ← q1]
      exact take_putCells1 _ _ (by rw [q1, hds, hc3]; omega)
    · have hk : k < d'.toList.length := by simpa using a
      refine ⟨by rw [List.getElem_map]; exact d'.toList[k].2.1, ?_⟩
      rw [List.getElem_map, List.getElem_map]
      exact Good.weak (hmove d'.toList[k] d' n os) fun b hb => ⟨⟨hb.1.1, hb.2⟩, hb.1.2⟩
  exact hK _ _ ((h _ hys hsort).on (hh.write (hgr d' n os) (.inl rfl) hok) (Fr.put (hf.mono fun _ _ hd => Hp.written (o' := hRow v e Verts (d'.toList.map fun p => p.1.2)) (hgr d' n os) (.inl rfl) hd) (d := dA) trivial))
end
end Go.Proofs.YtmlikmldfdgmcaaGreat
namespace Go.Proofs.YtmlikmldfdgmcaaGreat
open Go.RowKit
section
variable {P : Program} {ops : Array Oper} {hp : List HObj} {o : Oper} {fr : List Dat} {d : Dat} {Q : Post} {rest : List Oper}
variable {dst : Option Tmp} {ty : TypeId} {ps : String} {af : Array Edge} {g : Option (Nat × Bool)} {e e' t T : TypeId} {bytes b cap N : Nat} {z : Value} {ag : Bool} {α : Type} {R : Rel α} {_gR : Good R} {xs : List α} {v : Value}
abbrev hQ (b N cap : Nat) (e : TypeId) (R : Rel α) [Good R] (xs : List α) : HObj := hRow (.slice (some ⟨b, 0, none⟩) N cap) e R xs
theorem WC.openQ {c : Code} {v : Value} (hne : 0 < xs.length) (h : ∀ b cap, v = .slice (some ⟨b, 0, none⟩) xs.length cap → xs.length ≤ cap → cap ≤ maxLen → WC P Q c fr (hRow v e R xs :: hp)) : WC P Q c fr (hRow v e R xs :: hp) := WC.of fun P0 B w0 w a hh hf => by
  obtain ⟨us, h1, ⟨h2, h3⟩, h4⟩ := hh.ok (hRow v e R xs) (by simp)
  rcases h3 with ⟨_, hz⟩ | ⟨g, cap, cur, hv, hB, hg, hc1, hc2, hc3, hc4⟩
  · omega
  · exact (h g cap hv hc1 hc2).on hh hf
theorem SY.ixQ {x i : Operand} {n m off k : Nat} {j : Int} (E : ElT P t e 1 z bytes ag) (hx : OpD fr x (dX (.slice (some ⟨b, off, none⟩) n m))) (hi : OpD fr i (dI j)) (hj : j = (k : Int)) (hk : k < n) :
    SY P ops hp { dst := dst, op := .indexAddr t x i, type := ty, pos := ps, after := af, guard := g } fr (dX (.pointer (some ⟨b, off + k, none⟩))) := SY.val fun {I w a} ho => by
  have h1 : a.eval x = _ := hx.get (by simp [Op.operands]) ho
  have h2 : a.eval i = _ := hi.get (by simp [Op.operands]) ho
  refine ⟨.pointer (some ⟨b, off + k * 1, none⟩), ?_, by rw [Nat.mul_one]; rfl⟩
  unfold execOp
  simp only [h1, h2, hj, Sem.run_bind, run_indexAt (w := w) E b off n m k .i64 hk, Result.andThen_ok, Sem.run_pure]
theorem SY.loadQ {x : Operand} {j k : Nat} (T' : TyI P T 1 false) (hx : OpD fr x (dX (.pointer (some ⟨b, j, none⟩)))) (hm : hQ b N cap e' R xs ∈ hp) (hj : j = k) (hk : k < xs.length) :
    SY P ops hp { dst := dst, op := .load T x, type := ty, pos := ps, after := af, guard := g } fr (dS R xs[k]) := by
  subst hj
  exact SY.loadR T' hx hm hk
theorem WL.storeQ {p : Tmp} {x : Operand} {j k : Nat} {y : α} (T' : TyI P T 1 false) (hp0 : OpD fr (.tmp p) (dX (.pointer (some ⟨b, j, none⟩)))) (hx : OpD fr x (dS R y)) (hs : (dS R y).Shape 1 false) (hj : j = k) (hk : k < xs.length)
    (h : WL P ops Q rest (setD fr dst dA) (hQ b N cap e R (xs.set k y) :: hp)) : WL P ops Q ({ dst := dst, op := .store T (.tmp p) x, type := ty, pos := ps, after := af, guard := none } :: rest) fr (hQ b N cap e R xs :: hp) := by
  subst hj
  exact WL.storeR T' hp0 hx hs hk h
theorem SY.fromQ {x y : Operand} {off n m l : Nat} {j : Int} (E : ElT P t e 1 z bytes ag) (hx : OpD fr x (dX (.slice (some ⟨b, off, none⟩) n m))) (hy : OpD fr y (dI j)) (hj : j = (l : Int)) (hl : l < n) (hm : n ≤ m) :
    SY P ops hp { dst := dst, op := .slice t x (some y) none none, type := ty, pos := ps, after := af, guard := g } fr (dX (.slice (some ⟨b, off + l, none⟩) (n - l) (m - l))) := SY.val fun {I w a} ho => by
  have h1 : a.eval x = _ := hx.get (by simp [Op.operands]) ho
  have h2 : a.eval y = _ := hy.get (by simp [Op.operands]) ho
  refine ⟨_, ?_, rfl⟩
  have hr := run_slice (w := w) (ad := some ⟨b, off, none⟩) (len := n) (cap := m) (lo := some (.int .i64 (l : Int))) (hi := none) (l := l) (h := n) E (.inr ⟨_, rfl⟩) (.inl ⟨rfl, rfl⟩) (by omega) hm
  rw [if_neg (by omega)] at hr
  unfold execOp
  simp only [h1, h2, hj, Option.map_none, Option.map_some, Sem.run_bind, hr, Result.andThen_ok, Sem.run_pure]
  simp [Addr.add_lit]
theorem SY.uptoQ {x y : Operand} {off n m l : Nat} {j : Int} (E : ElT P t e 1 z bytes ag) (hx : OpD fr x (dX (.slice (some ⟨b, off, none⟩) n m))) (hy : OpD fr y (dI j)) (hj : j = (l : Int)) (hl : l ≤ n) (hm : n ≤ m) (h0 : 0 < m) :
    SY P ops hp { dst := dst, op := .slice t x none (some y) none, type := ty, pos := ps, after := af, guard := g } fr (dX (.slice (some ⟨b, off, none⟩) l m)) := SY.val fun {I w a} ho => by
  have h1 : a.eval x = _ := hx.get (by simp [Op.operands]) ho
  have h2 : a.eval y = _ := hy.get (by simp [Op.operands]) ho
  refine ⟨_, ?_, rfl⟩
  have hr := run_slice (w := w) (ad := some ⟨b, off, none⟩) (len := n) (cap := m) (lo := none) (hi := some (.int .i64 (l : Int))) (l := 0) (h := l) E (.inl ⟨rfl, rfl⟩) (.inr ⟨_, rfl⟩) (by omega) (by omega)
  rw [if_neg (by omega)] at hr
  unfold execOp
  simp only [h1, h2, hj, Option.map_none, Option.map_some, Sem.run_bind, hr, Result.andThen_ok, Sem.run_pure]
  simp [Addr.add_lit]
theorem WL.cutQ {k : Nat} (hk : k ≤ xs.length) (h : WL P ops Q rest fr (hQ b k cap e R (xs.take k) :: hp)) : WL P ops Q rest fr (hQ b N cap e R xs :: hp) := WL.of fun P0 B w0 w a hh hf => by
  obtain ⟨us, h1, ⟨h2, h3⟩, h4⟩ := (hQ b N cap e R xs).bound (hh.ok (hQ b N cap e R xs) (by simp))
  have hgr : w.grownBy w (hQ b N cap e R xs).blk := ⟨rfl, rfl, rfl, Nat.le_refl _, fun _ _ _ => rfl⟩
  have hok : (hQ b k cap e R (xs.take k)).ok (fun j => Imm P0 B (hQ b N cap e R xs :: hp) j ∧ j < w.heap.size) w := by
    rcases h3 with ⟨hc, _⟩ | ⟨g, cap', cur, hv, hB, hg, hc1, hc2, hc3, hc4⟩
    · cases hc
    · cases hv
      refine ⟨us.take k, by simp [h1], ⟨by simp; omega, .inr ⟨_, _, cur, ?_, hB, hg, by simp; omega, hc2, hc3, ?_⟩⟩, fun i a1 a2 => ?_⟩
      · simp [Nat.min_eq_left hk]
      · rw [List.length_take, Nat.min_eq_left hk, Nat.mul_one]
        rw [Nat.mul_one] at hc4
        rw [← hc4, List.take_take, Nat.min_eq_left hk]
      · rw [List.getElem_take, List.getElem_take]
        rw [List.length_take] at a1 a2
        exact h4 i (by omega) (by omega)
  exact h.on (hh.write hgr (.inl rfl) hok) (hf.mono fun _ _ hd => Hp.written (o' := hQ b k cap e R (xs.take k)) hgr (.inl rfl) hd)
theorem WL.uptoC1 {l : Nat} {x y : Operand} {j : Int} (E : ElT P t e 1 z bytes ag) (hx : OpD fr x (dX (.slice (some ⟨b, 0, none⟩) N cap))) (hy : OpD fr y (dI j)) (hj : j = (l : Int)) (hl : l ≤ N) (hm : N ≤ cap) (h0 : 0 < cap) (hk : l ≤ xs.length)
    (h : WL P ops Q rest (setD fr dst (dX (.slice (some ⟨b, 0, none⟩) l cap))) (hQ b l cap e R (xs.take l) :: hp)) : WL P ops Q ({ dst := dst, op := .slice t x none (some y) none, type := ty, pos := ps, after := af, guard := none } :: rest) fr (hQ b N cap e R xs :: hp) :=
  WL.op rfl (SY.uptoQ E hx hy hj hl hm h0) (WL.cutQ hk h)
theorem WL.clearQ {x : Operand} {off n m k : Nat} {x0 : α} (hu : P.underlying t = some (.slice e)) (hz : ∀ w, (zeroValue e).run P w = .ok z w) (hz1 : z.oneCell' = true) (hz0 : ∀ I w, R I w z x0) (hx : OpD fr x (dX (.slice (some ⟨b, off, none⟩) n m))) (hj : off = k) (hn : 0 < n) (hk : k + n = xs.length)
    (h : WL P ops Q rest (setD fr dst dA) (hQ b N cap e R (xs.take k ++ List.replicate n x0) :: hp)) : WL P ops Q ({ dst := dst, op := .call { callee := .builtin .clear, args := #[x], argTypes := #[t] }, type := ty, pos := ps, after := af, guard := none } :: rest) fr (hQ b N cap e R xs :: hp) := by
  refine WL.of fun P0 B w0 w a hh hf => ?_
  subst hj
  have hok := (hQ b N cap e R xs).bound (hh.ok (hQ b N cap e R xs) (by simp))
  obtain ⟨us, h1, ⟨h2, h3⟩, h4⟩ := hok
  rcases h3 with ⟨hc, _⟩ | ⟨g, cap', cur, hv, hB, hg, hc1, hc2, hc3, hc4⟩
  · cases hc
  cases hv
  rw [Nat.mul_one] at hc3 hc4
  have hval : a.eval x = _ := hx.ev hf
  have hcl : off + n ≤ cur.toList.length := by simp; omega
  have hzc : (Builtin.zeroCells #[z] n).toList = List.replicate n z := by
    simp only [Builtin.zeroCells]
    apply List.ext_getElem
    · simp
    · intro i h1 h2
      simp [Nat.mod_one]
  have hcell : ∀ j < n, w.cell? ⟨b, off + j, none⟩ ≠ none ∧ w.frozen? ⟨b, off + j, none⟩ = false := fun j hj => by
    have : off + j < cur.size := by omega
    exact ⟨by simp [World.cell?, hg, this], by simp [World.frozen?, hg]⟩
  have hst := run_storeCells_cells (P := P) b off (List.replicate n z) 0 w (fun j hj => by
      rw [List.length_replicate] at hj
      rw [Nat.add_zero]
      exact Option.isSome_iff_ne_none.2 (hcell j hj).1) (fun j hj => by
      rw [List.length_replicate] at hj
      rw [Nat.add_zero]
      exact (hcell j hj).2) (fun c hc => by rw [(List.mem_replicate.1 hc).2]; exact hz1)
  have hrun : (execOp a.eval { dst := dst, op := .call { callee := .builtin .clear, args := #[x], argTypes := #[t] }, type := ty, pos := ps, after := af, guard := none }).run P w = .ok (.value (.tuple #[])) (w.setCells b off (List.replicate n z)) := by
    obtain ⟨m', rfl⟩ : ∃ m, n = m + 1 := ⟨n - 1, by omega⟩
    unfold execOp
    simp [resolve, invoke, builtin, hval, Builtin.clear_, run_underlying hu, hz, cells_one hz1, hzc, hst]
  have hsplit : cur = (cur.toList.take off ++ (cur.toList.drop off).take n ++ cur.toList.drop (off + n)).toArray := by
    apply Array.ext'
    simp [← List.drop_drop]
  have hg2 : (w.setCells b off (List.replicate n z)).heap[b]? = some (.cells (cur.toList.take off ++ List.replicate n z ++ cur.toList.drop (off + n)).toArray e (0, 0)) := by
    have := heap_setCells_mid (g := b) (e := e) (fz := (0, 0)) (List.replicate n z) ((cur.toList.drop off).take n) (cur.toList.take off) (cur.toList.drop (off + n)) w (by simp; omega) (by rw [← hsplit]; exact hg)
    rwa [List.length_take, Nat.min_eq_left (by omega)] at this
  have hgr : w.grownBy (w.setCells b off (List.replicate n z)) (some b) := row_grown
  have hok' : (hQ b xs.length cap e R (xs.take off ++ List.replicate n x0)).ok (fun j => Imm P0 B (hQ b xs.length cap e R xs :: hp) j ∧ j < w.heap.size) (w.setCells b off (List.replicate n z)) := by
    have hlen : (xs.take off ++ List.replicate n x0).length = xs.length := by simp; omega
    have hlu : (us.take off ++ List.replicate n z).length = xs.length := by simp; omega
    refine ⟨us.take off ++ List.replicate n z, by rw [hlen, hlu], ⟨by rw [hlu, hlen, Nat.mul_one], .inr ⟨_, _, _, by rw [hlen], hB, hg2, by rw [hlen]; exact hc1, hc2, ?_, ?_⟩⟩, fun i a1 a2 => ?_⟩
    · simp; omega
    · rw [hlen, Nat.mul_one]
      rw [List.take_append_of_le_length (by simp; omega), List.take_of_length_le (by simp; omega), ← hc4, List.take_take, Nat.min_eq_left (by omega)]
    · by_cases hi : i < off
      · rw [List.getElem_append_left (by simp; omega), List.getElem_append_left (by simp; omega), List.getElem_take, List.getElem_take]
        have := h4 i (by omega) (by omega)
        exact ⟨this.1, Good.grown this.2 hgr fun r hr hc => hc.2 (by cases hr; rfl)⟩
      · rw [List.getElem_append_right (by simp; omega), List.getElem_append_right (by simp; omega), List.getElem_replicate, List.getElem_replicate]
        exact ⟨hz1, hz0 _ _⟩
  refine wpList_plain rfl fun K hK => ?_
  unfold Oper.wp
  rw [hrun]
  exact hK _ _ (h.on (hh.write hgr (.inl rfl) hok') (Fr.put (hf.mono fun _ _ hd => Hp.written (o := hQ b xs.length cap e R xs) (o' := hQ b xs.length cap e R (xs.take off ++ List.replicate n x0)) hgr (.inl rfl) hd) (d := dA) trivial))
end
end Go.Proofs.YtmlikmldfdgmcaaGreat
