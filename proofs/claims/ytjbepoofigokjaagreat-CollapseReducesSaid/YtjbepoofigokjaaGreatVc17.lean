/-
  Part 17 of the texts that the claims of this seat lean on: walks of the program's functions by contracts over symbolic frames, and plain laws of what they compute. No condition.
-/
import Derived.Shelf.SlSortCmp.NoneTotal
import Derived.Test.YtjbepoofigokjaaGreatVc7
import Derived.Test.YtjbepoofigokjaaGreatVc11
import Derived.Test.YtjbepoofigokjaaGreatVc12
import Derived.Test.YtjbepoofigokjaaGreatVc15
import Derived.Test.YtjbepoofigokjaaGreatVc16
set_option linter.unusedVariables false
set_option linter.unusedSimpArgs false
set_option linter.unusedSectionVars false
namespace Go.Proofs.YtjbepoofigokjaaGreat
open Go.RowKit Go.Sort Go.Shelf
section
variable {w : World} {g n cap : Nat} {os : Array Obj} {cur : Array Value} {e : TypeId} {fz : Nat × Nat} {α : Type} [Inhabited α] {enc : α → Value}
theorem grownBy_sorted1 (d : Array α) : w.grownBy (sortWorld enc w g 0 n d os) (some g) := by
  refine ⟨rfl, rfl, rfl, by simp [sortWorld], fun k hk hne => ?_⟩
  unfold sortWorld
  rw [heap_grow_old _ _ (by simpa using hk)]
  have : g ≠ k := fun e => hne (by rw [e])
  simp [putRow, mapBlock, Sort.ahead, Array.getElem?_modify, this]
theorem heap_sorted1 (d : Array α) (hb : w.heap[g]? = some (.cells cur e fz)) :
    (sortWorld enc w g 0 n d os).heap[g]? = some (.cells (putCells enc 0 d cur) e fz) := by
  have hg : g < w.heap.size := (Array.getElem?_eq_some_iff.1 hb).1
  unfold sortWorld
  rw [heap_grow_old _ _ (by simpa using hg)]
  simp [putRow, mapBlock, Sort.ahead, Array.getElem?_modify, hb, onCells]
theorem holds_of_row1 {d : Array α} (hb : w.heap[g]? = some (.cells cur e (0, 0))) (ht : cur.toList.take d.size = d.toList.map enc) : Holds enc w g 0 d := by
  intro j hj
  refine ⟨?_, by simp [World.frozen?, hb]⟩
  have h1 : (cur.toList.take d.size)[j]? = (d.toList.map enc)[j]? := by rw [ht]
  rw [List.getElem?_take_of_lt hj] at h1
  simp only [World.cell?, hb, Nat.zero_add]
  simp only [Option.isSome_none, Bool.false_eq_true, if_false]
  rw [← Array.getElem?_toList, h1, getElem!_pos _ j hj]
  simp [hj]
theorem take_putCells1 (cur : Array Value) (d : Array α) (h : d.size ≤ cur.size) : (putCells enc 0 d cur).toList.take d.size = d.toList.map enc := by
  apply List.ext_getElem?
  intro j
  by_cases hj : j < d.size
  · rw [List.getElem?_take_of_lt hj, Array.getElem?_toList]
    simp [putCells, hj, show j < cur.size by omega]
  · rw [List.getElem?_take_eq_none (by omega), List.getElem?_eq_none (by simp; omega)]
end
theorem cmpL_lt_trans0 {a b c : List Vx} (h : cmpL a b < 0) (k : cmpL b c < 0) : cmpL a c < 0 := by
  obtain ⟨h1, h2⟩ := cmpL_trans a b c (by omega) (by omega)
  rcases Int.lt_or_eq_of_le h1 with h3 | h3
  · exact h3
  · have := h2 h3; omega
theorem swoL {α : Type} (f : α → List Vx) : SWO (ltOf fun x y : α => cmpL (f x) (f y)) where
  irrefl x := by simp [ltOf, cmpL_eq.2 (rfl : f x = f x)]
  trans x y z h h' := by
    simp only [ltOf, decide_eq_true_eq] at *
    exact cmpL_lt_trans0 h h'
  ntrans x y z h h' := by
    simp only [ltOf, decide_eq_false_iff_not] at *
    have e1 := cmpL_neg (f x) (f y)
    have e2 := cmpL_neg (f y) (f z)
    have e3 := cmpL_neg (f x) (f z)
    have := (cmpL_trans (f z) (f y) (f x) (by omega) (by omega)).1
    omega
section
variable {ops : Array Oper} {hp : List HObj} {fr : List Dat} {Q : Post} {rest : List Oper} {dst : Option Tmp} {ty : TypeId} {ps : String} {af : Array Edge}
theorem WL.sortS {x : Operand} {v : Value} {e : TypeId} {xs : List (List Vx)} {ats : Array TypeId} (hx : OpD fr x (dX v)) (hlen : xs.length < 4611686018427387904)
    (h : ∀ ys : List (List Vx), ys.Perm xs → ys.Pairwise (fun a b => ¬ cmpL b a < 0) → WL Tryz.prog ops Q rest (setD fr dst dA) (hRow v e Verts ys :: hp)) :
    WL Tryz.prog ops Q ({ dst := dst, op := .call { callee := .value (.func 94), args := #[x, .func 66], argTypes := ats }, type := ty, pos := ps, after := af, guard := none } :: rest) fr (hRow v e Verts xs :: hp) := by
  refine WL.of fun P0 B w0 w a hh hf => ?_
  have hok := hh.ok (hRow v e Verts xs) (by simp)
  obtain ⟨us, h1, h2, h3⟩ := hok
  have hev : a.eval x = v := hx.ev hf
  obtain ⟨hfl, hv⟩ := h2
  have hrun : (execOp a.eval { dst := dst, op := .call { callee := .value (.func 94), args := #[x, .func 66], argTypes := ats }, type := ty, pos := ps, after := af, guard := none }).run Tryz.prog w = .ok (.enter 94 #[v, .func (.func 66) #[] #[]]) w := by
    unfold execOp
    simp only [resolve]
    have he : (#[x, Operand.func 66] : Array Operand).map a.eval = #[v, .func (.func 66) #[] #[]] := by simp [hev]; rfl
    rw [he]
    simp [Act.eval, Deferred.ofValue, invoke, Tryz.call94]
  by_cases hne : xs = []
  · subst hne
    have hv0 : ∃ p cap, v = .slice p 0 cap := by
      rcases hv with ⟨hv, _⟩ | ⟨g, cap, cur, hv, _⟩
      · exact ⟨_, _, hv⟩
      · exact ⟨_, _, hv⟩
    obtain ⟨p, cap, hv0⟩ := hv0
    have hcon := AnyF.slices_SortFunc_none (P := Tryz.prog) (ρ := Tryz.sortS_ren) { Tryz.sortS with } p cap (.func (.func 66) #[] #[]) w
    change Calls Tryz.prog 94 _ _ _ at hcon
    refine wpList_plain rfl fun K hK => ?_
    unfold Oper.wp
    rw [hrun, hv0]
    refine hcon.mono fun e' w' ⟨he, hw'⟩ => ?_
    subst he
    subst hw'
    exact hK _ _ ((h [] (List.Perm.refl _) List.Pairwise.nil).on hh (hf.put (d := dA) trivial))
  have hpos : 0 < xs.length := List.length_pos_iff.2 hne
  rcases hv with ⟨_, hz⟩ | ⟨g, cap, cur, hv, hB, hg, hc1, hc2, hc3, hc4⟩
  · omega
  have hgb : g < w.heap.size := (Array.getElem?_eq_some_iff.1 hg).1
  let J : Nat → Prop := fun b => Imm P0 B (hRow v e Verts xs :: hp) b ∧ v.ownBlock ≠ some b
  let α := {p : Value × List Vx // p.1.oneCell' = true ∧ Verts J w p.1 p.2}
  let at0 : Fin xs.length → α := fun k => ⟨(us[k.1]'(by omega), xs[k.1]), h3 k.1 (by omega) k.2⟩
  haveI : Inhabited α := ⟨at0 ⟨0, hpos⟩⟩
  let enc : α → Value := fun p => p.1.1
  let d : Array α := (List.ofFn at0).toArray
  have hds : d.size = xs.length := by simp [d]
  have hdu : d.toList.map enc = us := by
    apply List.ext_getElem (by simp [d, h1])
    intro k a b
    simp [d, enc, at0]
  have hdx : d.toList.map (fun p => p.1.2) = xs := by
    apply List.ext_getElem (by simp [d])
    intro k a b
    simp [d, at0]
  have hown : v.ownBlock = some g := by rw [hv]; rfl
  have hH : Holds enc w g 0 d := holds_of_row1 hg (by rw [hds, hdu]; simpa using hc4)
  have hgr : ∀ (d' : Array α) (n : Nat) (os : Array Obj), w.grownBy (sortWorld enc w g 0 n d' os) (hRow v e Verts xs).blk := fun d' n os => by
    show w.grownBy _ v.ownBlock
    rw [hown]; exact grownBy_sorted1 d'
  have hmove : ∀ (p : α) (d' : Array α) (n : Nat) (os : Array Obj), Verts (fun b => J b ∧ b < w.heap.size) (sortWorld enc w g 0 n d' os) p.1.1 p.1.2 := fun p d' n os =>
    Good.move (Good.bound p.2.2) fun k hk hlt => (hgr d' n os).block k hlt fun he => hk.1.2 he.symm
  have hcon := Any.slices_SortFunc Tryz.sortS enc (fun p => p.2.1) (fun p q => cmpL p.1.2 q.1.2) (swoL fun p : α => p.1.2) 66 #[] g 0 cap d w Tryz.call66
    (fun m os dk _ p q => M.cmpL_x (hmove p dk m os) (hmove q dk m os)) hH hgb (by rw [hds]; exact hlen)
  change Calls Tryz.prog 94 _ _ _ at hcon
  refine wpList_plain rfl fun K hK => ?_
  unfold Oper.wp
  rw [hrun]
  have hva : v = .slice (some ⟨g, 0, none⟩) d.size cap := by rw [hds]; exact hv
  rw [← hva] at hcon
  refine hcon.mono fun e' w' ⟨he, d', n, os, hp1, hs, hw'⟩ => ?_
  subst he
  subst hw'
  obtain ⟨q1, _, q3⟩ := hp1
  have hperm : d'.toList.Perm d.toList := by
    have e1 : d'.extract 0 d.size = d' := by rw [← q1]; simp
    have e2 : d.extract 0 d.size = d := by simp
    rw [e1, e2] at q3
    exact q3
  have hys : (d'.toList.map fun p => p.1.2).Perm xs := by
    have := hperm.map (fun p : α => p.1.2)
    rwa [hdx] at this
  have hsort : (d'.toList.map fun p => p.1.2).Pairwise (fun a b => ¬ cmpL b a < 0) := by
    rw [List.pairwise_map, List.pairwise_iff_getElem]
    intro i j hi hj hij
    have hi' : i < d'.size := by simpa using hi
    have hj' : j < d'.size := by simpa using hj
    have := hs i j (Nat.zero_le _) hij (by omega)
    rw [getElem!_pos d' i hi', getElem!_pos d' j hj'] at this
    simpa [ltOf] using this
  have hlen' : (d'.toList.map fun p => p.1.2).length = xs.length := by simp; omega
  have hok : (hRow v e Verts (d'.toList.map fun p => p.1.2)).ok (fun k => Imm P0 B (hRow v e Verts xs :: hp) k ∧ k < w.heap.size) (sortWorld enc w g 0 n d' os) := by
    refine ⟨d'.toList.map enc, by simp, ⟨by simp, .inr ⟨g, cap, putCells enc 0 d' cur, ?_, hB, heap_sorted1 _ hg, by omega, hc2, by simp [putCells, hc3], ?_⟩⟩, fun k a b => ?_⟩
    · rw [hlen']; exact hv
    · rw [hlen', Nat.mul_one, ← hds, ← q1]
      exact take_putCells1 _ _ (by rw [q1, hds, hc3]; omega)
    · have hk : k < d'.toList.length := by simpa using a
      refine ⟨by rw [List.getElem_map]; exact d'.toList[k].2.1, ?_⟩
      rw [List.getElem_map, List.getElem_map]
      exact Good.weak (hmove d'.toList[k] d' n os) fun b hb => ⟨⟨hb.1.1, hb.2⟩, hb.1.2⟩
  exact hK _ _ ((h _ hys hsort).on (hh.write (hgr d' n os) (.inl rfl) hok) (Fr.put (hf.mono fun _ _ hd => Hp.written (o' := hRow v e Verts (d'.toList.map fun p => p.1.2)) (hgr d' n os) (.inl rfl) hd) (d := dA) trivial))
end
end Go.Proofs.YtjbepoofigokjaaGreat
namespace Go.Proofs.YtjbepoofigokjaaGreat
open Go.RowKit
section
variable {P : Program} {ops : Array Oper} {hp : List HObj} {o : Oper} {fr : List Dat} {d : Dat} {Q : Post} {rest : List Oper}
variable {dst : Option Tmp} {ty : TypeId} {ps : String} {af : Array Edge} {g : Option (Nat × Bool)} {e e' t T : TypeId} {bytes b cap N : Nat} {z : Value} {ag : Bool} {α : Type} {R : Rel α} {_gR : Good R} {xs : List α} {v : Value}
abbrev hQ (b N cap : Nat) (e : TypeId) (R : Rel α) [Good R] (xs : List α) : HObj := hRow (.slice (some ⟨b, 0, none⟩) N cap) e R xs
theorem WC.openQ {c : Code} {v : Value} (hne : 0 < xs.length) (h : ∀ b cap, v = .slice (some ⟨b, 0, none⟩) xs.length cap → xs.length ≤ cap → cap ≤ maxLen → WC P Q c fr (hRow v e R xs :: hp)) : WC P Q c fr (hRow v e R xs :: hp) := WC.of fun P0 B w0 w a hh hf => by
  obtain ⟨us, h1, ⟨h2, h3⟩, h4⟩ := hh.ok (hRow v e R xs) (by simp)
  rcases h3 with ⟨_, hz⟩ | ⟨g, cap, cur, hv, hB, hg, hc1, hc2, hc3, hc4⟩
  · omega
  · exact (h g cap hv hc1 hc2).on hh hf
theorem SY.ixQ {x i : Operand} {n m off k : Nat} {j : Int} (E : ElT P t e 1 z bytes ag) (hx : OpD fr x (dX (.slice (some ⟨b, off, none⟩) n m))) (hi : OpD fr i (dI j)) (hj : j = (k : Int)) (hk : k < n) :
    SY P ops hp { dst := dst, op := .indexAddr t x i, type := ty, pos := ps, after := af, guard := g } fr (dX (.pointer (some ⟨b, off + k, none⟩))) := SY.val fun {I w a} ho => by
  have h1 : a.eval x = _ := hx.get (by simp [Op.operands]) ho
  have h2 : a.eval i = _ := hi.get (by simp [Op.operands]) ho
  refine ⟨.pointer (some ⟨b, off + k * 1, none⟩), ?_, by rw [Nat.mul_one]; rfl⟩
  unfold execOp
  simp only [h1, h2, hj, Sem.run_bind, run_indexAt (w := w) E b off n m k .i64 hk, Result.andThen_ok, Sem.run_pure]
theorem SY.loadQ {x : Operand} {j k : Nat} (T' : TyI P T 1 false) (hx : OpD fr x (dX (.pointer (some ⟨b, j, none⟩)))) (hm : hQ b N cap e' R xs ∈ hp) (hj : j = k) (hk : k < xs.length) :
    SY P ops hp { dst := dst, op := .load T x, type := ty, pos := ps, after := af, guard := g } fr (dS R xs[k]) := by
  subst hj
  exact SY.loadR T' hx hm hk
theorem WL.storeQ {p : Tmp} {x : Operand} {j k : Nat} {y : α} (T' : TyI P T 1 false) (hp0 : OpD fr (.tmp p) (dX (.pointer (some ⟨b, j, none⟩)))) (hx : OpD fr x (dS R y)) (hs : (dS R y).Shape 1 false) (hj : j = k) (hk : k < xs.length)
    (h : WL P ops Q rest (setD fr dst dA) (hQ b N cap e R (xs.set k y) :: hp)) : WL P ops Q ({ dst := dst, op := .store T (.tmp p) x, type := ty, pos := ps, after := af, guard := none } :: rest) fr (hQ b N cap e R xs :: hp) := by
  subst hj
  exact WL.storeR T' hp0 hx hs hk h
theorem SY.fromQ {x y : Operand} {off n m l : Nat} {j : Int} (E : ElT P t e 1 z bytes ag) (hx : OpD fr x (dX (.slice (some ⟨b, off, none⟩) n m))) (hy : OpD fr y (dI j)) (hj : j = (l : Int)) (hl : l < n) (hm : n ≤ m) :
    SY P ops hp { dst := dst, op := .slice t x (some y) none none, type := ty, pos := ps, after := af, guard := g } fr (dX (.slice (some ⟨b, off + l, none⟩) (n - l) (m - l))) := SY.val fun {I w a} ho => by
  have h1 : a.eval x = _ := hx.get (by simp [Op.operands]) ho
  have h2 : a.eval y = _ := hy.get (by simp [Op.operands]) ho
  refine ⟨_, ?_, rfl⟩
  have hr := run_slice (w := w) (ad := some ⟨b, off, none⟩) (len := n) (cap := m) (lo := some (.int .i64 (l : Int))) (hi := none) (l := l) (h := n) E (.inr ⟨_, rfl⟩) (.inl ⟨rfl, rfl⟩) (by omega) hm
  rw [if_neg (by omega)] at hr
  unfold execOp
  simp only [h1, h2, hj, Option.map_none, Option.map_some, Sem.run_bind, hr, Result.andThen_ok, Sem.run_pure]
  simp [Addr.add_lit]
theorem SY.uptoQ {x y : Operand} {off n m l : Nat} {j : Int} (E : ElT P t e 1 z bytes ag) (hx : OpD fr x (dX (.slice (some ⟨b, off, none⟩) n m))) (hy : OpD fr y (dI j)) (hj : j = (l : Int)) (hl : l ≤ n) (hm : n ≤ m) (h0 : 0 < m) :
    SY P ops hp { dst := dst, op := .slice t x none (some y) none, type := ty, pos := ps, after := af, guard := g } fr (dX (.slice (some ⟨b, off, none⟩) l m)) := SY.val fun {I w a} ho => by
  have h1 : a.eval x = _ := hx.get (by simp [Op.operands]) ho
  have h2 : a.eval y = _ := hy.get (by simp [Op.operands]) ho
  refine ⟨_, ?_, rfl⟩
  have hr := run_slice (w := w) (ad := some ⟨b, off, none⟩) (len := n) (cap := m) (lo := none) (hi := some (.int .i64 (l : Int))) (l := 0) (h := l) E (.inl ⟨rfl, rfl⟩) (.inr ⟨_, rfl⟩) (by omega) (by omega)
  rw [if_neg (by omega)] at hr
  unfold execOp
  simp only [h1, h2, hj, Option.map_none, Option.map_some, Sem.run_bind, hr, Result.andThen_ok, Sem.run_pure]
  simp [Addr.add_lit]
theorem WL.cutQ {k : Nat} (hk : k ≤ xs.length) (h : WL P ops Q rest fr (hQ b k cap e R (xs.take k) :: hp)) : WL P ops Q rest fr (hQ b N cap e R xs :: hp) := WL.of fun P0 B w0 w a hh hf => by
  obtain ⟨us, h1, ⟨h2, h3⟩, h4⟩ := (hQ b N cap e R xs).bound (hh.ok (hQ b N cap e R xs) (by simp))
  have hgr : w.grownBy w (hQ b N cap e R xs).blk := ⟨rfl, rfl, rfl, Nat.le_refl _, fun _ _ _ => rfl⟩
  have hok : (hQ b k cap e R (xs.take k)).ok (fun j => Imm P0 B (hQ b N cap e R xs :: hp) j ∧ j < w.heap.size) w := by
    rcases h3 with ⟨hc, _⟩ | ⟨g, cap', cur, hv, hB, hg, hc1, hc2, hc3, hc4⟩
    · cases hc
    · cases hv
      refine ⟨us.take k, by simp [h1], ⟨by simp; omega, .inr ⟨_, _, cur, ?_, hB, hg, by simp; omega, hc2, hc3, ?_⟩⟩, fun i a1 a2 => ?_⟩
      · simp [Nat.min_eq_left hk]
      · rw [List.length_take, Nat.min_eq_left hk, Nat.mul_one]
        rw [Nat.mul_one] at hc4
        rw [← hc4, List.take_take, Nat.min_eq_left hk]
      · rw [List.getElem_take, List.getElem_take]
        rw [List.length_take] at a1 a2
        exact h4 i (by omega) (by omega)
  exact h.on (hh.write hgr (.inl rfl) hok) (hf.mono fun _ _ hd => Hp.written (o' := hQ b k cap e R (xs.take k)) hgr (.inl rfl) hd)
theorem WL.uptoC1 {l : Nat} {x y : Operand} {j : Int} (E : ElT P t e 1 z bytes ag) (hx : OpD fr x (dX (.slice (some ⟨b, 0, none⟩) N cap))) (hy : OpD fr y (dI j)) (hj : j = (l : Int)) (hl : l ≤ N) (hm : N ≤ cap) (h0 : 0 < cap) (hk : l ≤ xs.length)
    (h : WL P ops Q rest (setD fr dst (dX (.slice (some ⟨b, 0, none⟩) l cap))) (hQ b l cap e R (xs.take l) :: hp)) : WL P ops Q ({ dst := dst, op := .slice t x none (some y) none, type := ty, pos := ps, after := af, guard := none } :: rest) fr (hQ b N cap e R xs :: hp) :=
  WL.op rfl (SY.uptoQ E hx hy hj hl hm h0) (WL.cutQ hk h)
theorem WL.clearQ {x : Operand} {off n m k : Nat} {x0 : α} (hu : P.underlying t = some (.slice e)) (hz : ∀ w, (zeroValue e).run P w = .ok z w) (hz1 : z.oneCell' = true) (hz0 : ∀ I w, R I w z x0) (hx : OpD fr x (dX (.slice (some ⟨b, off, none⟩) n m))) (hj : off = k) (hn : 0 < n) (hk : k + n = xs.length)
    (h : WL P ops Q rest (setD fr dst dA) (hQ b N cap e R (xs.take k ++ List.replicate n x0) :: hp)) : WL P ops Q ({ dst := dst, op := .call { callee := .builtin .clear, args := #[x], argTypes := #[t] }, type := ty, pos := ps, after := af, guard := none } :: rest) fr (hQ b N cap e R xs :: hp) := by
  refine WL.of fun P0 B w0 w a hh hf => ?_
  subst hj
  have hok := (hQ b N cap e R xs).bound (hh.ok (hQ b N cap e R xs) (by simp))
  obtain ⟨us, h1, ⟨h2, h3⟩, h4⟩ := hok
  rcases h3 with ⟨hc, _⟩ | ⟨g, cap', cur, hv, hB, hg, hc1, hc2, hc3, hc4⟩
  · cases hc
  cases hv
  rw [Nat.mul_one] at hc3 hc4
  have hval : a.eval x = _ := hx.ev hf
  have hcl : off + n ≤ cur.toList.length := by simp; omega
  have hzc : (Builtin.zeroCells #[z] n).toList = List.replicate n z := by
    simp only [Builtin.zeroCells]
    apply List.ext_getElem
    · simp
    · intro i h1 h2
      simp [Nat.mod_one]
  have hcell : ∀ j < n, w.cell? ⟨b, off + j, none⟩ ≠ none ∧ w.frozen? ⟨b, off + j, none⟩ = false := fun j hj => by
    have : off + j < cur.size := by omega
    exact ⟨by simp [World.cell?, hg, this], by simp [World.frozen?, hg]⟩
  have hst := run_storeCells_cells (P := P) b off (List.replicate n z) 0 w (fun j hj => by
      rw [List.length_replicate] at hj
      rw [Nat.add_zero]
      exact Option.isSome_iff_ne_none.2 (hcell j hj).1) (fun j hj => by
      rw [List.length_replicate] at hj
      rw [Nat.add_zero]
      exact (hcell j hj).2) (fun c hc => by rw [(List.mem_replicate.1 hc).2]; exact hz1)
  have hrun : (execOp a.eval { dst := dst, op := .call { callee := .builtin .clear, args := #[x], argTypes := #[t] }, type := ty, pos := ps, after := af, guard := none }).run P w = .ok (.value (.tuple #[])) (w.setCells b off (List.replicate n z)) := by
    obtain ⟨m', rfl⟩ : ∃ m, n = m + 1 := ⟨n - 1, by omega⟩
    unfold execOp
    simp [resolve, invoke, builtin, hval, Builtin.clear_, run_underlying hu, hz, cells_one hz1, hzc, hst]
  have hsplit : cur = (cur.toList.take off ++ (cur.toList.drop off).take n ++ cur.toList.drop (off + n)).toArray := by
    apply Array.ext'
    simp [← List.drop_drop]
  have hg2 : (w.setCells b off (List.replicate n z)).heap[b]? = some (.cells (cur.toList.take off ++ List.replicate n z ++ cur.toList.drop (off + n)).toArray e (0, 0)) := by
    have := heap_setCells_mid (g := b) (e := e) (fz := (0, 0)) (List.replicate n z) ((cur.toList.drop off).take n) (cur.toList.take off) (cur.toList.drop (off + n)) w (by simp; omega) (by rw [← hsplit]; exact hg)
    rwa [List.length_take, Nat.min_eq_left (by omega)] at this
  have hgr : w.grownBy (w.setCells b off (List.replicate n z)) (some b) := row_grown
  have hok' : (hQ b xs.length cap e R (xs.take off ++ List.replicate n x0)).ok (fun j => Imm P0 B (hQ b xs.length cap e R xs :: hp) j ∧ j < w.heap.size) (w.setCells b off (List.replicate n z)) := by
    have hlen : (xs.take off ++ List.replicate n x0).length = xs.length := by simp; omega
    have hlu : (us.take off ++ List.replicate n z).length = xs.length := by simp; omega
    refine ⟨us.take off ++ List.replicate n z, by rw [hlen, hlu], ⟨by rw [hlu, hlen, Nat.mul_one], .inr ⟨_, _, _, by rw [hlen], hB, hg2, by rw [hlen]; exact hc1, hc2, ?_, ?_⟩⟩, fun i a1 a2 => ?_⟩
    · simp; omega
    · rw [hlen, Nat.mul_one]
      rw [List.take_append_of_le_length (by simp; omega), List.take_of_length_le (by simp; omega), ← hc4, List.take_take, Nat.min_eq_left (by omega)]
    · by_cases hi : i < off
      · rw [List.getElem_append_left (by simp; omega), List.getElem_append_left (by simp; omega), List.getElem_take, List.getElem_take]
        have := h4 i (by omega) (by omega)
        exact ⟨this.1, Good.grown this.2 hgr fun r hr hc => hc.2 (by cases hr; rfl)⟩
      · rw [List.getElem_append_right (by simp; omega), List.getElem_append_right (by simp; omega), List.getElem_replicate, List.getElem_replicate]
        exact ⟨hz1, hz0 _ _⟩
  refine wpList_plain rfl fun K hK => ?_
  unfold Oper.wp
  rw [hrun]
  exact hK _ _ (h.on (hh.write hgr (.inl rfl) hok') (Fr.put (hf.mono fun _ _ hd => Hp.written (o := hQ b xs.length cap e R xs) (o' := hQ b xs.length cap e R (xs.take off ++ List.replicate n x0)) hgr (.inl rfl) hd) (d := dA) trivial))
end
end Go.Proofs.YtjbepoofigokjaaGreat
namespace Go.Proofs.YtjbepoofigokjaaGreat
theorem cmpL_lt_trans {a b c : List Vx} (h : cmpL a b < 0) (k : cmpL b c < 0) : cmpL a c < 0 := by
  obtain ⟨h1, h2⟩ := cmpL_trans a b c (by omega) (by omega)
  rcases Int.lt_or_eq_of_le h1 with h3 | h3
  · exact h3
  · have := h2 h3; omega
theorem cmpL_irr (a : List Vx) : cmpL a a = 0 := cmpL_eq.2 rfl
theorem cmpL_cases (a b : List Vx) : cmpL a b < 0 ∨ cmpL b a < 0 ∨ a = b := by
  have h := cmpL_neg a b
  by_cases h1 : cmpL a b < 0
  · exact .inl h1
  by_cases h2 : cmpL b a < 0
  · exact .inr (.inl h2)
  · exact .inr (.inr (cmpL_eq.1 (by omega)))
def SortL (xs : Cx) : Prop := xs.Pairwise fun a b => ¬ cmpL b a < 0
def AscL (xs : Cx) : Prop := xs.Pairwise fun a b => cmpL a b < 0
theorem ascL_ext : ∀ {a b : Cx}, AscL a → AscL b → (∀ x, x ∈ a ↔ x ∈ b) → a = b
  | [], [], _, _, _ => rfl
  | [], y :: b, _, _, h => absurd ((h y).2 (by simp)) (by simp)
  | x :: a, [], _, _, h => absurd ((h x).1 (by simp)) (by simp)
  | x :: a, y :: b, ha, hb, h => by
    unfold AscL at ha hb
    rw [List.pairwise_cons] at ha hb
    have hxy : x = y := by
      have h1 := (h x).1 (by simp)
      have h2 := (h y).2 (by simp)
      rw [List.mem_cons] at h1 h2
      rcases h1 with h1 | h1
      · exact h1
      rcases h2 with h2 | h2
      · exact h2.symm
      have h3 := hb.1 x h1
      have h4 := ha.1 y h2
      have := cmpL_neg x y
      omega
    subst hxy
    rw [ascL_ext ha.2 hb.2 fun z => ?_]
    have h1 := h z
    rw [List.mem_cons, List.mem_cons] at h1
    constructor
    · intro hz
      rcases h1.1 (.inr hz) with rfl | h2
      · have := ha.1 z hz; have := cmpL_irr z; omega
      · exact h2
    · intro hz
      rcases h1.2 (.inr hz) with rfl | h2
      · have := hb.1 z hz; have := cmpL_irr z; omega
      · exact h2
theorem AscL.nodup {a : Cx} (h : AscL a) : a.Nodup := List.Pairwise.imp (fun {x y} hxy hc => by
  subst hc; have := cmpL_irr x; omega) h
def GoodL (xs : Cx) (m : Nat) (zs : Cx) : Prop := AscL zs ∧ (∀ v, v ∈ zs ↔ v ∈ xs.take m) ∧ zs.getLast? = xs[m - 1]?
theorem ascL_last {zs : Cx} {l : List Vx} (h : AscL zs) (hl : zs.getLast? = some l) : ∀ a ∈ zs, a = l ∨ cmpL a l < 0 := by
  obtain ⟨ys, rfl⟩ := List.getLast?_eq_some_iff.1 hl
  intro a ha
  rcases List.mem_append.1 ha with ha | ha
  · exact .inr ((List.pairwise_append.1 h).2.2 a ha l (by simp))
  · exact .inl (by simpa using ha)
theorem goodL_start {xs : Cx} (h : 1 ≤ xs.length) : GoodL xs 1 (xs.take 1) := by
  match xs, h with
  | x :: l, _ => exact ⟨by simp [AscL], fun v => Iff.rfl, by simp⟩
theorem goodL_push {xs zs : Cx} {m : Nat} (hs : SortL xs) (h : GoodL xs m zs) (h1 : 1 ≤ m) (h2 : m < xs.length) (hne : xs[m] ≠ xs[m - 1]'(by omega)) : GoodL xs (m + 1) (zs ++ [xs[m]]) := by
  obtain ⟨ha, hm, hl⟩ := h
  rw [List.getElem?_eq_getElem (by omega : m - 1 < xs.length)] at hl
  have hlt : cmpL (xs[m - 1]'(by omega)) xs[m] < 0 := by
    have h3 := (List.pairwise_iff_getElem.1 hs) (m - 1) m (by omega) h2 (by omega)
    rcases cmpL_cases (xs[m - 1]'(by omega)) xs[m] with k | k | k
    · exact k
    · exact absurd k h3
    · exact absurd k.symm hne
  refine ⟨List.pairwise_append.2 ⟨ha, by simp, fun a haz b hb => ?_⟩, fun v => ?_, by simp [h2]⟩
  · have hb' : b = xs[m] := by simpa using hb
    subst hb'
    rcases ascL_last ha hl a haz with rfl | h4
    · exact hlt
    · exact cmpL_lt_trans h4 hlt
  · rw [List.mem_append, hm, mem_take_snoc h2]; simp
theorem goodL_skip {xs zs : Cx} {m : Nat} (h : GoodL xs m zs) (h1 : 1 ≤ m) (h2 : m < xs.length) (he : xs[m] = xs[m - 1]'(by omega)) : GoodL xs (m + 1) zs := by
  obtain ⟨ha, hm, hl⟩ := h
  refine ⟨ha, fun v => ?_, ?_⟩
  · rw [hm, mem_take_snoc h2]
    refine ⟨.inl, fun h => h.elim id fun h => ?_⟩
    rw [h, he, List.mem_take_iff_getElem]
    exact ⟨m - 1, by omega, rfl⟩
  · rw [hl, Nat.add_sub_cancel, List.getElem?_eq_getElem h2, List.getElem?_eq_getElem (by omega), he]
theorem goodL_end {xs zs : Cx} {m : Nat} (h : GoodL xs m zs) (h2 : xs.length ≤ m) : AscL zs ∧ ∀ v, v ∈ zs ↔ v ∈ xs := ⟨h.1, fun v => by rw [h.2.1, List.take_of_length_le h2]⟩
theorem insC_mem : ∀ {l : Cx} {s x : List Vx}, x ∈ insC l s ↔ x = s ∨ x ∈ l
  | [], s, x => by simp [insC]
  | y :: l, s, x => by
    unfold insC
    split
    · simp
    · rw [List.mem_cons, insC_mem, List.mem_cons]
      constructor
      · rintro (h | h | h) <;> simp [h]
      · rintro (h | h | h) <;> simp [h]
theorem putC_mem {l : Cx} {s x : List Vx} : x ∈ putC l s ↔ x = s ∨ x ∈ l := by
  unfold putC
  split
  · rename_i h
    exact ⟨.inr, fun h' => h'.elim (fun e => e ▸ h) id⟩
  · exact insC_mem
theorem insC_asc : ∀ {l : Cx} {s : List Vx}, AscL l → s ∉ l → AscL (insC l s)
  | [], s, _, _ => by simp [insC, AscL]
  | y :: l, s, h, hs => by
    have h' := h
    unfold AscL at h'
    rw [List.pairwise_cons] at h'
    unfold insC
    split
    · rename_i hlt
      unfold AscL
      rw [List.pairwise_cons]
      refine ⟨fun a ha => ?_, h⟩
      rcases List.mem_cons.1 ha with rfl | ha
      · exact hlt
      · exact cmpL_lt_trans hlt (h'.1 a ha)
    · rename_i hlt
      unfold AscL
      rw [List.pairwise_cons]
      refine ⟨fun a ha => ?_, insC_asc h'.2 fun hc => hs (by simp [hc])⟩
      rcases insC_mem.1 ha with rfl | ha
      · rcases cmpL_cases a y with k | k | k
        · exact absurd k hlt
        · exact k
        · exact absurd (by rw [k]; simp) hs
      · exact h'.1 a ha
theorem putC_asc {l : Cx} {s : List Vx} (h : AscL l) : AscL (putC l s) := by
  unfold putC
  split
  · exact h
  · rename_i hs; exact insC_asc h hs
theorem foldPut_asc : ∀ {l out : Cx}, AscL out → AscL (l.foldl putC out)
  | [], _, h => h
  | s :: l, out, h => foldPut_asc (l := l) (putC_asc h)
theorem foldPut_mem : ∀ {l out : Cx} {x : List Vx}, x ∈ l.foldl putC out ↔ x ∈ l ∨ x ∈ out
  | [], out, x => by simp
  | s :: l, out, x => by
    rw [List.foldl_cons, foldPut_mem (l := l), putC_mem, List.mem_cons]
    constructor
    · rintro (h | h | h) <;> simp [h]
    · rintro ((h | h) | h) <;> simp [h]
theorem maxC_asc (l : Cx) : AscL (maxC l) := foldPut_asc (by simp [AscL])
theorem maxC_mem {l : Cx} {s : List Vx} : s ∈ maxC l ↔ s ∈ l ∧ topC l s = true := by
  unfold maxC
  rw [foldPut_mem, List.mem_filter]
  simp
theorem coveredC_iff {l : Cx} {s : List Vx} : coveredC l s = true ↔ ∃ x ∈ l, s.length < x.length ∧ insideV s x = true := by
  unfold coveredC
  simp
theorem coveredC_same {l l' : Cx} (h : ∀ x, x ∈ l ↔ x ∈ l') (s : List Vx) : coveredC l s = coveredC l' s := by
  rw [Bool.eq_iff_iff, coveredC_iff, coveredC_iff]
  constructor
  · rintro ⟨x, hx, hr⟩; exact ⟨x, (h x).1 hx, hr⟩
  · rintro ⟨x, hx, hr⟩; exact ⟨x, (h x).2 hx, hr⟩
theorem maxC_eq {l zs : Cx} (h0 : ∀ s ∈ l, 0 < s.length) (ha : AscL zs) (hm : ∀ u, u ∈ zs ↔ u ∈ l) : (zs.filter fun s => !coveredC zs s) = maxC l := by
  refine ascL_ext (List.Pairwise.filter _ ha) (maxC_asc l) fun s => ?_
  rw [List.mem_filter, maxC_mem, hm]
  unfold topC
  rw [coveredC_same hm]
  constructor
  · rintro ⟨h1, h2⟩; exact ⟨h1, by rw [decide_eq_true (h0 s h1)]; exact h2⟩
  · rintro ⟨h1, h2⟩; rw [decide_eq_true (h0 s h1)] at h2; exact ⟨h1, h2⟩
end Go.Proofs.YtjbepoofigokjaaGreat
namespace Go.Proofs.YtjbepoofigokjaaGreat
open Go.RowKit
set_option linter.unusedSimpArgs false

set_option maxHeartbeats 2000000
set_option maxRecDepth 100000
def faceG : List Vx → List Vx → Bool
  | [], _ => true
  | v :: a, b => if (b.dropWhile fun x => decide (x ≠ v)) = [] then false else faceG a (b.dropWhile fun x => decide (x ≠ v))
theorem faceG_skip {v x : Vx} {a c : List Vx} (h : x ≠ v) : faceG (v :: a) (x :: c) = faceG (v :: a) c := by
  unfold faceG
  rw [List.dropWhile_cons_of_pos (by simpa using h)]
theorem faceG_hit {v : Vx} {a c : List Vx} : faceG (v :: a) (v :: c) = faceG a (v :: c) := by
  conv => lhs; unfold faceG
  rw [List.dropWhile_cons_of_neg (by simp)]
  simp
theorem faceG_end {v : Vx} {a : List Vx} : faceG (v :: a) [] = false := by unfold faceG; simp
theorem face27_p (a b : List Vx) : Fn Tryz.prog 108 [dS Verts a, dS Verts b] (dB (faceG a b)) := by
  (refine Fn.intro1 Tryz.func108 rfl rfl ?_; simp only [Tryz.ntmps108, List.length_cons, List.length_nil, Nat.reduceAdd, Nat.reduceSub, List.replicate_succ, List.replicate_zero, List.cons_append, List.nil_append])
  (repeat' (first | ((first | apply WL.opN | apply WD.opN); exact yF; dsimp only [setD, z0, z1]) | refine WL.nil ?_ | refine WC.seqK fun Kx hK => ?_ | (refine hK _ _ ?_; clear hK) | refine WC.region ?_ | ((first | apply WL.opG | apply WD.op); (focus (first | exact wN | (apply SYG.yes; (exact wY); ((first | exact yLen | fail); all_goals infer_instance)))); dsimp only [setD, z0, z1]) | refine WC.block ?_))
  (first | refine WC.know (t := 0) rfl le_K fun hl0 => ?_ | refine WC.know (t := 0) rfl le_A fun hl0 => ?_ | refine WC.know (t := 0) rfl le_C fun hl0 => ?_); simp only [maxLen] at hl0
  (refine WC.loopU (X := Nat × List Vx) (fun x => [(9, dI (x.1 : Int)), (1, dS Verts x.2), (4, dA), (6, dA), (10, dA), (11, dA), (12, dA), (13, dA), (14, dA), (15, dA), (16, dA), (17, dA), (18, dA), (19, dA), (20, dA), (21, dA), (22, dA), (23, dA), (24, dA), (25, dA), (26, dA), (27, dA), (28, dA)]) (fun x => []) (fun x => a.length - x.1) (fun x => x.1 ≤ a.length ∧ faceG a b = faceG (a.drop x.1) x.2) (0, b) ?start ?frame0 ?objs0 ?round)
  case start => exact ⟨Nat.zero_le _, rfl⟩
  case frame0 => ((try dsimp only [upds, z0, z1]); repeat (first | exact LeF.nil | refine LeF.co (k := ?_)))
  case objs0 => rfl
  case round =>
    rintro ⟨k, c⟩ ⟨h1, h2⟩
    simp only at h1 h2
    dsimp only [upds, z0, z1]
    ((repeat' (first | ((first | apply WL.opN | apply WD.opN); exact yF; dsimp only [setD, z0, z1]) | refine WL.nil ?_ | refine WC.seqK fun Kx hK => ?_ | (refine hK _ _ ?_; clear hK) | (refine Kont.skip ?_; clear hK) | refine WC.region ?_ | (apply WL.alloc; (first | exact tzV | exact tzC); (first | exact shape_X rfl | exact shape_XV | exact shape_C0 rfl); (intro _; dsimp only [setD, z0, z1])) | (apply WL.storeF; (exact tD); rfl; (exact oD); (exact hD); dsimp only [setD, z0, z1]) | ((first | apply WL.opG | apply WD.op); (focus (first | exact wN | (apply SYG.yes; (exact wY); ((first | exact yLss | exact yIndexaddr | fail); all_goals infer_instance)))); dsimp only [setD, z0, z1]) | (apply WC.condD; (exact oD); all_goals (intro h; try exact xD)) | refine WC.skip ?_ | refine WC.ret ?_ | refine WC.exit ?_ | refine WC.block ?_)); all_goals (first | refine WC.id ?_ | ((repeat clear hK); (repeat clear Kx))))
    · (refine WC.loopU (X := List Vx) (fun c' => [(1, dS Verts c'), (13, dA), (14, dA), (15, dA), (16, dA), (17, dA), (18, dA), (19, dA), (20, dA), (21, dA), (22, dA), (23, dA), (24, dA)]) (fun c' => []) (fun c' => c'.length) (fun c' => c'.length ≤ c.length ∧ faceG a b = faceG (a.drop k) c') c ?start ?frame0 ?objs0 ?round)
      case start => exact ⟨Nat.le_refl _, h2⟩
      case frame0 => ((try dsimp only [upds, z0, z1]); repeat (first | exact LeF.nil | refine LeF.co (k := ?_)))
      case objs0 => rfl
      case round =>
        rintro c' ⟨h3, h4⟩
        dsimp only [upds, z0, z1]
        ((repeat' (first | ((first | apply WL.opN | apply WD.opN); exact yF; dsimp only [setD, z0, z1]) | refine WL.nil ?_ | refine WD.nil ?_ | refine WC.seqK fun Kx hK => ?_ | (refine hK _ _ ?_; clear hK) | (refine Kont.skip ?_; clear hK) | refine WC.region ?_ | (apply WC.draw; kernel_rfl; kernel_rfl) | ((first | apply WL.opG | apply WD.op); (focus (first | exact wN | (apply SYG.yes; (exact wY); ((first | (apply SY.ixKJ elV (OpD.t rfl) OpD.i 0 rfl; omega) | (apply SY.fromK elV (OpD.t rfl) OpD.i 1 rfl; omega) | exact yMove | exact yGtr | exact yEql | exact yNeq | exact yAdd | exact yLoad | exact yLen | exact yPick | fail); all_goals infer_instance)))); dsimp only [setD, z0, z1]) | ((first | refine WL.caseP rfl rfl rfl (fun h => ?_) (fun h => ?_) | refine WL.caseN rfl rfl rfl (fun h => ?_) (fun h => ?_) | refine WL.caseB rfl rfl rfl (fun h => ?_) (fun h => ?_) | refine WD.caseP rfl rfl rfl (fun h => ?_) (fun h => ?_) | refine WD.caseN rfl rfl rfl (fun h => ?_) (fun h => ?_) | refine WD.caseB rfl rfl rfl (fun h => ?_) (fun h => ?_)) <;> (first | (exfalso; first | omega | contradiction) | (dsimp only [z0, z1]))) | (apply WC.condF; (exact oD); (with_reducible rfl)) | (apply WC.condD; (exact oD); all_goals (intro h; try exact xD)) | (apply WC.condN; (exact oD); all_goals (intro h; try exact xD)) | refine WC.skip ?_ | refine WC.ret ?_ | refine WC.exit ?_ | refine WC.block ?_ | refine ThenD.n ?_ | refine ThenD.r ?_ | refine InBlockD.n ?_ | refine InBlockD.r ?_)); all_goals (first | ((repeat clear hK); (repeat clear Kx))))
        all_goals rw [List.drop_eq_getElem_cons (show k < a.length by omega)] at h4
        · have hc : c' = c'[0] :: c'.drop 1 := by
            have := List.drop_eq_getElem_cons (show 0 < c'.length by omega)
            rwa [List.drop_zero] at this
          have hd : (c'.drop 1).length = c'.length - 1 := List.length_drop
          (refine ⟨c'.drop 1, ?_, by first | omega | (simp only; omega), rfl, ?_⟩; rotate_left; ((try dsimp only [upds, z0, z1]); repeat (first | exact LeF.nil | refine LeF.co (k := ?_))); (try dsimp only))
          refine ⟨by omega, ?_⟩
          rw [List.drop_eq_getElem_cons (show k < a.length by omega), h4]
          conv => lhs; rw [hc]
          exact faceG_skip h
        · have hc : c' = a[k] :: c'.drop 1 := by
            have := List.drop_eq_getElem_cons (show 0 < c'.length by omega)
            rw [List.drop_zero] at this
            rw [this]; congr 1
          (refine ⟨(k + 1, c'), ?_, by first | omega | (simp only; omega), rfl, ?_⟩; rotate_left; ((try dsimp only [upds, z0, z1]); repeat (first | exact LeF.nil | refine LeF.co (k := ?_))); (try dsimp only))
          refine ⟨by omega, ?_⟩
          show _ = faceG (a.drop (k + 1)) c'
          rw [h4]
          conv => lhs; rw [hc, faceG_hit]
          rw [← hc]
        · have hc : c' = [] := List.eq_nil_of_length_eq_zero (by omega)
          (refine ⟨trivial, _, rfl, ?_⟩; refine FinD.b ?_)
          rw [h4, hc, faceG_end]
    · rw [List.drop_of_length_le (by omega)] at h2
      (refine ⟨trivial, _, rfl, ?_⟩; refine FinD.b ?_)
      rw [h2]; rfl
end Go.Proofs.YtjbepoofigokjaaGreat
namespace Go.Proofs.YtjbepoofigokjaaGreat
open Go.RowKit
set_option linter.unusedSimpArgs false

set_option maxHeartbeats 2000000
set_option maxRecDepth 100000
abbrev MemS (l : Cx) := {v : List Vx // v ∈ l}
abbrev dPredI (at' : List Int) (p : Int → Bool) : Dat := dFun Tryz.prog (fun i : {i : Int // i ∈ at'} => [dI i.1]) (fun i => dB (p i.1))
theorem idxI_p (l : List Int) (p : Int → Bool) : Fn Tryz.prog 134 [dS Ints l, dPredI l p] (dI (idxG p 0 l)) := by
  (refine Fn.intro1 Tryz.func134 rfl rfl ?_; simp only [Tryz.ntmps134, List.length_cons, List.length_nil, Nat.reduceAdd, Nat.reduceSub, List.replicate_succ, List.replicate_zero, List.cons_append, List.nil_append])
  (repeat' (first | (apply WL.opN; exact yF; dsimp only [setD, z0, z1]) | refine WL.nil ?_ | refine WC.seqK fun Kx hK => ?_ | (refine hK _ _ ?_; clear hK) | refine WC.region ?_ | (apply WL.opN; (focus ((first | exact yLen | fail); all_goals infer_instance)); dsimp only [setD, z0, z1]) | refine WC.block ?_))
  (first | refine WC.know (t := 0) rfl le_K fun hl0 => ?_ | refine WC.know (t := 0) rfl le_A fun hl0 => ?_ | refine WC.know (t := 0) rfl le_C fun hl0 => ?_); simp only [maxLen] at hl0
  (refine WC.loopU (X := Nat) (fun k => [(8, dI (k : Int)), (4, dA), (5, dA), (9, dA), (10, dA), (11, dA), (12, dA), (13, dA), (14, dA), (15, dA), (16, dA), (17, dA), (18, dA)]) (fun k => []) (fun k => l.length - k) (fun k => k ≤ l.length ∧ idxG p 0 l = idxG p k (l.drop k)) 0 ?start ?frame0 ?objs0 ?round)
  case start => exact ⟨Nat.zero_le _, rfl⟩
  case frame0 => ((try dsimp only [upds, z0, z1]); repeat (first | exact LeF.nil | refine LeF.co (k := ?_)))
  case objs0 => rfl
  case round =>
    rintro k ⟨h1, h2⟩
    dsimp only [upds, z0, z1]
    ((repeat' (first | (apply WL.opN; exact yF; dsimp only [setD, z0, z1]) | refine WL.nil ?_ | refine WC.seqK fun Kx hK => ?_ | (refine hK _ _ ?_; clear hK) | (refine Kont.skip ?_; clear hK) | refine WC.region ?_ | (apply WL.opN; (focus ((first | (apply SY.dynF (x := (⟨l[k], List.getElem_mem _⟩ : {i : Int // i ∈ l})); (exact OpD.t rfl); (exact aD)) | exact yLss | exact yAdd | exact yIndexaddr | fail); all_goals infer_instance)); dsimp only [setD, z0, z1]) | (apply WC.condD; (exact oD); all_goals (intro h; try exact xD)) | (apply WC.cond; (exact oD); all_goals (intro h; try exact xD)) | refine WC.skip ?_ | refine WC.ret ?_ | refine WC.exit ?_ | refine WC.block ?_ | refine ThenD.n ?_ | refine ThenD.r ?_ | refine InBlockD.r ?_)); all_goals (first | ((repeat clear hK); (repeat clear Kx))))
    · (refine ⟨trivial, _, rfl, ?_⟩; refine FinD.i ?_)
      rw [h2, idxG_drop (by omega), if_pos h]
    · (refine ⟨k + 1, ?_, by first | omega | (simp only; omega), rfl, ?_⟩; rotate_left; ((try dsimp only [upds, z0, z1]); repeat (first | exact LeF.nil | refine LeF.co (k := ?_))); (try dsimp only))
      exact ⟨by omega, by rw [h2, idxG_drop (by omega), if_neg (by simp [h])]⟩
    · (refine ⟨trivial, _, rfl, ?_⟩; refine FinD.i ?_)
      rw [h2, List.drop_of_length_le (by omega)]; rfl
theorem cntI_p (l : List Int) (p : Int → Bool) : Fn Tryz.prog 106 [dS Ints l, dPredI l p] (dB (l.any p)) := by
  (refine Fn.intro1 Tryz.func106 rfl rfl ?_; simp only [Tryz.ntmps106, List.length_cons, List.length_nil, Nat.reduceAdd, Nat.reduceSub, List.replicate_succ, List.replicate_zero, List.cons_append, List.nil_append])
  ((repeat' (first | (apply WL.opN; exact yF; dsimp only [setD, z0, z1]) | refine WL.nil ?_ | refine WC.seqK fun Kx hK => ?_ | (refine hK _ _ ?_; clear hK) | refine WC.region ?_ | (apply WL.opN; (focus ((first | (apply SY.call (idxI_p _ _) Tryz.call134; (exact aD)) | exact yGeq | fail); all_goals infer_instance)); dsimp only [setD, z0, z1]) | refine WC.ret ?_)); all_goals (first | ((repeat clear hK); (repeat clear Kx))))
  all_goals ((refine ⟨trivial, _, rfl, ?_⟩; refine FinD.b ?_); exact idxG_iff _ _)
end Go.Proofs.YtjbepoofigokjaaGreat
