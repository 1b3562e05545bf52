/-
  Part 16 of the texts that the claims of this seat lean on: walks of the program's functions by contracts over symbolic frames, and plain laws of what they compute. No condition.
-/
import Derived.Test.YtkedmlandjlogaaGreatVd6
import Derived.Test.YtkedmlandjlogaaGreatVd8
import Derived.Test.YtkedmlandjlogaaGreatVd11
import Derived.Test.YtkedmlandjlogaaGreatVd15
set_option linter.unusedVariables false
set_option linter.unusedSimpArgs false
set_option linter.unusedSectionVars false
namespace Go.Proofs.YtkedmlandjlogaaGreat
open Go.RowKit
section
variable {P : Program} {ops : Array Oper} {hp : List HObj} {o : Oper} {fr : List Dat} {d : Dat} {Q : Post} {rest : List Oper}
variable {dst : Option Tmp} {ty : TypeId} {ps : String} {af : Array Edge} {g : Option (Nat × Bool)} {e e' t T : TypeId} {bytes b cap N : Nat} {z : Value} {ag : Bool} {α : Type} {R : Rel α} {_gR : Good R} {xs : List α} {v : Value}
abbrev hQ (b N cap : Nat) (e : TypeId) (R : Rel α) [Good R] (xs : List α) : HObj := hRow (.slice (some ⟨b, 0, none⟩) N cap) e R xs
theorem WC.openQ {c : Code} {v : Value} (hne : 0 < xs.length) (h : ∀ b cap, v = .slice (some ⟨b, 0, none⟩) xs.length cap → xs.length ≤ cap → cap ≤ maxLen → WC P Q c fr (hRow v e R xs :: hp)) : WC P Q c fr (hRow v e R xs :: hp) := WC.of fun P0 B w0 w a hh hf => by
  obtain ⟨us, h1, ⟨h2, h3⟩, h4⟩ := hh.ok (hRow v e R xs) (by simp)
  rcases h3 with ⟨_, hz⟩ | ⟨g, cap, cur, hv, hB, hg, hc1, hc2, hc3, hc4⟩
  · omega
  · exact (h g cap hv hc1 hc2).on hh hf
theorem SY.ixQ {x i : Operand} {n m off k : Nat} {j : Int} (E : ElT P t e 1 z bytes ag) (hx : OpD fr x (dX (.slice (some ⟨b, off, none⟩) n m))) (hi : OpD fr i (dI j)) (hj : j = (k : Int)) (hk : k < n) :
    SY P ops hp { dst := dst, op := .indexAddr t x i, type := ty, pos := ps, after := af, guard := g } fr (dX (.pointer (some ⟨b, off + k, none⟩))) := SY.val fun {I w a} ho => by
  have h1 : a.eval x = _ := hx.get (by simp [Op.operands]) ho
  have h2 : a.eval i = _ := hi.get (by simp [Op.operands]) ho
  refine ⟨.pointer (some ⟨b, off + k * 1, none⟩), ?_, by rw [Nat.mul_one]; rfl⟩
  unfold execOp
  simp only [h1, h2, hj, Sem.run_bind, run_indexAt (w := w) E b off n m k .i64 hk, Result.andThen_ok, Sem.run_pure]
theorem SY.loadQ {x : Operand} {j k : Nat} (T' : TyI P T 1 false) (hx : OpD fr x (dX (.pointer (some ⟨b, j, none⟩)))) (hm : hQ b N cap e' R xs ∈ hp) (hj : j = k) (hk : k < xs.length) :
    SY P ops hp { dst := dst, op := .load T x, type := ty, pos := ps, after := af, guard := g } fr (dS R xs[k]) := by
  subst hj
  exact SY.loadR T' hx hm hk
theorem WL.storeQ {p : Tmp} {x : Operand} {j k : Nat} {y : α} (T' : TyI P T 1 false) (hp0 : OpD fr (.tmp p) (dX (.pointer (some ⟨b, j, none⟩)))) (hx : OpD fr x (dS R y)) (hs : (dS R y).Shape 1 false) (hj : j = k) (hk : k < xs.length)
    (h : WL P ops Q rest (setD fr dst dA) (hQ b N cap e R (xs.set k y) :: hp)) : WL P ops Q ({ dst := dst, op := .store T (.tmp p) x, type := ty, pos := ps, after := af, guard := none } :: rest) fr (hQ b N cap e R xs :: hp) := by
  subst hj
  exact WL.storeR T' hp0 hx hs hk h
theorem SY.fromQ {x y : Operand} {off n m l : Nat} {j : Int} (E : ElT P t e 1 z bytes ag) (hx : OpD fr x (dX (.slice (some ⟨b, off, none⟩) n m))) (hy : OpD fr y (dI j)) (hj : j = (l : Int)) (hl : l < n) (hm : n ≤ m) :
    SY P ops hp { dst := dst, op := .slice t x (some y) none none, type := ty, pos := ps, after := af, guard := g } fr (dX (.slice (some ⟨b, off + l, none⟩) (n - l) (m - l))) := SY.val fun {I w a} ho => by
  have h1 : a.eval x = _ := hx.get (by simp [Op.operands]) ho
  have h2 : a.eval y = _ := hy.get (by simp [Op.operands]) ho
  refine ⟨_, ?_, rfl⟩
  have hr := run_slice (w := w) (ad := some ⟨b, off, none⟩) (len := n) (cap := m) (lo := some (.int .i64 (l : Int))) (hi := none) (l := l) (h := n) E (.inr ⟨_, rfl⟩) (.inl ⟨rfl, rfl⟩) (by omega) hm
  rw [if_neg (by omega)] at hr
  unfold execOp
  simp only [h1, h2, hj, Option.map_none, Option.map_some, Sem.run_bind, hr, Result.andThen_ok, Sem.run_pure]
  simp [Addr.add_lit]
theorem SY.uptoQ {x y : Operand} {off n m l : Nat} {j : Int} (E : ElT P t e 1 z bytes ag) (hx : OpD fr x (dX (.slice (some ⟨b, off, none⟩) n m))) (hy : OpD fr y (dI j)) (hj : j = (l : Int)) (hl : l ≤ n) (hm : n ≤ m) (h0 : 0 < m) :
    SY P ops hp { dst := dst, op := .slice t x none (some y) none, type := ty, pos := ps, after := af, guard := g } fr (dX (.slice (some ⟨b, off, none⟩) l m)) := SY.val fun {I w a} ho => by
  have h1 : a.eval x = _ := hx.get (by simp [Op.operands]) ho
  have h2 : a.eval y = _ := hy.get (by simp [Op.operands]) ho
  refine ⟨_, ?_, rfl⟩
  have hr := run_slice (w := w) (ad := some ⟨b, off, none⟩) (len := n) (cap := m) (lo := none) (hi := some (.int .i64 (l : Int))) (l := 0) (h := l) E (.inl ⟨rfl, rfl⟩) (.inr ⟨_, rfl⟩) (by omega) (by omega)
  rw [if_neg (by omega)] at hr
  unfold execOp
  simp only [h1, h2, hj, Option.map_none, Option.map_some, Sem.run_bind, hr, Result.andThen_ok, Sem.run_pure]
  simp [Addr.add_lit]
theorem WL.cutQ {k : Nat} (hk : k ≤ xs.length) (h : WL P ops Q rest fr (hQ b k cap e R (xs.take k) :: hp)) : WL P ops Q rest fr (hQ b N cap e R xs :: hp) := WL.of fun P0 B w0 w a hh hf => by
  obtain ⟨us, h1, ⟨h2, h3⟩, h4⟩ := (hQ b N cap e R xs).bound (hh.ok (hQ b N cap e R xs) (by simp))
  have hgr : w.grownBy w (hQ b N cap e R xs).blk := ⟨rfl, rfl, rfl, Nat.le_refl _, fun _ _ _ => rfl⟩
  have hok : (hQ b k cap e R (xs.take k)).ok (fun j => Imm P0 B (hQ b N cap e R xs :: hp) j ∧ j < w.heap.size) w := by
    rcases h3 with ⟨hc, _⟩ | ⟨g, cap', cur, hv, hB, hg, hc1, hc2, hc3, hc4⟩
    · cases hc
    · cases hv
      refine ⟨us.take k, by simp [h1], ⟨by simp; omega, .inr ⟨_, _, cur, ?_, hB, hg, by simp; omega, hc2, hc3, ?_⟩⟩, fun i a1 a2 => ?_⟩
      · simp [Nat.min_eq_left hk]
      · rw [List.length_take, Nat.min_eq_left hk, Nat.mul_one]
        rw [Nat.mul_one] at hc4
        rw [← hc4, List.take_take, Nat.min_eq_left hk]
      · rw [List.getElem_take, List.getElem_take]
        rw [List.length_take] at a1 a2
        exact h4 i (by omega) (by omega)
  exact h.on (hh.write hgr (.inl rfl) hok) (hf.mono fun _ _ hd => Hp.written (o' := hQ b k cap e R (xs.take k)) hgr (.inl rfl) hd)
theorem WL.uptoC1 {l : Nat} {x y : Operand} {j : Int} (E : ElT P t e 1 z bytes ag) (hx : OpD fr x (dX (.slice (some ⟨b, 0, none⟩) N cap))) (hy : OpD fr y (dI j)) (hj : j = (l : Int)) (hl : l ≤ N) (hm : N ≤ cap) (h0 : 0 < cap) (hk : l ≤ xs.length)
    (h : WL P ops Q rest (setD fr dst (dX (.slice (some ⟨b, 0, none⟩) l cap))) (hQ b l cap e R (xs.take l) :: hp)) : WL P ops Q ({ dst := dst, op := .slice t x none (some y) none, type := ty, pos := ps, after := af, guard := none } :: rest) fr (hQ b N cap e R xs :: hp) :=
  WL.op rfl (SY.uptoQ E hx hy hj hl hm h0) (WL.cutQ hk h)
theorem WL.clearQ {x : Operand} {off n m k : Nat} {x0 : α} (hu : P.underlying t = some (.slice e)) (hz : ∀ w, (zeroValue e).run P w = .ok z w) (hz1 : z.oneCell' = true) (hz0 : ∀ I w, R I w z x0) (hx : OpD fr x (dX (.slice (some ⟨b, off, none⟩) n m))) (hj : off = k) (hn : 0 < n) (hk : k + n = xs.length)
    (h : WL P ops Q rest (setD fr dst dA) (hQ b N cap e R (xs.take k ++ List.replicate n x0) :: hp)) : WL P ops Q ({ dst := dst, op := .call { callee := .builtin .clear, args := #[x], argTypes := #[t] }, type := ty, pos := ps, after := af, guard := none } :: rest) fr (hQ b N cap e R xs :: hp) := by
  refine WL.of fun P0 B w0 w a hh hf => ?_
  subst hj
  have hok := (hQ b N cap e R xs).bound (hh.ok (hQ b N cap e R xs) (by simp))
  obtain ⟨us, h1, ⟨h2, h3⟩, h4⟩ := hok
  rcases h3 with ⟨hc, _⟩ | ⟨g, cap', cur, hv, hB, hg, hc1, hc2, hc3, hc4⟩
  · cases hc
  cases hv
  rw [Nat.mul_one] at hc3 hc4
  have hval : a.eval x = _ := hx.ev hf
  have hcl : off + n ≤ cur.toList.length := by simp; omega
  have hzc : (Builtin.zeroCells #[z] n).toList = List.replicate n z := by
    simp only [Builtin.zeroCells]
    apply List.ext_getElem
    · simp
    · intro i h1 h2
      simp [Nat.mod_one]
  have hcell : ∀ j < n, w.cell? ⟨b, off + j, none⟩ ≠ none ∧ w.frozen? ⟨b, off + j, none⟩ = false := fun j hj => by
    have : off + j < cur.size := by omega
    exact ⟨by simp [World.cell?, hg, this], by simp [World.frozen?, hg]⟩
  have hst := run_storeCells_cells (P := P) b off (List.replicate n z) 0 w (fun j hj => by
      rw [List.length_replicate] at hj
      rw [Nat.add_zero]
      exact Option.isSome_iff_ne_none.2 (hcell j hj).1) (fun j hj => by
      rw [List.length_replicate] at hj
      rw [Nat.add_zero]
      exact (hcell j hj).2) (fun c hc => by rw [(List.mem_replicate.1 hc).2]; exact hz1)
  have hrun : (execOp a.eval { dst := dst, op := .call { callee := .builtin .clear, args := #[x], argTypes := #[t] }, type := ty, pos := ps, after := af, guard := none }).run P w = .ok (.value (.tuple #[])) (w.setCells b off (List.replicate n z)) := by
    obtain ⟨m', rfl⟩ : ∃ m, n = m + 1 := ⟨n - 1, by omega⟩
    unfold execOp
    simp [resolve, invoke, builtin, hval, Builtin.clear_, run_underlying hu, hz, cells_one hz1, hzc, hst]
  have hsplit : cur = (cur.toList.take off ++ (cur.toList.drop off).take n ++ cur.toList.drop (off + n)).toArray := by
    apply Array.ext'
    simp [← List.drop_drop]
  have hg2 : (w.setCells b off (List.replicate n z)).heap[b]? = some (.cells (cur.toList.take off ++ List.replicate n z ++ cur.toList.drop (off + n)).toArray e (0, 0)) := by
    have := heap_setCells_mid (g := b) (e := e) (fz := (0, 0)) (List.replicate n z) ((cur.toList.drop off).take n) (cur.toList.take off) (cur.toList.drop (off + n)) w (by simp; omega) (by rw [← hsplit]; exact hg)
    rwa [List.length_take, Nat.min_eq_left (by omega)] at this
  have hgr : w.grownBy (w.setCells b off (List.replicate n z)) (some b) := row_grown
  have hok' : (hQ b xs.length cap e R (xs.take off ++ List.replicate n x0)).ok (fun j => Imm P0 B (hQ b xs.length cap e R xs :: hp) j ∧ j < w.heap.size) (w.setCells b off (List.replicate n z)) := by
    have hlen : (xs.take off ++ List.replicate n x0).length = xs.length := by simp; omega
    have hlu : (us.take off ++ List.replicate n z).length = xs.length := by simp; omega
    refine ⟨us.take off ++ List.replicate n z, by rw [hlen, hlu], ⟨by rw [hlu, hlen, Nat.mul_one], .inr ⟨_, _, _, by rw [hlen], hB, hg2, by rw [hlen]; exact hc1, hc2, ?_, ?_⟩⟩, fun i a1 a2 => ?_⟩
    · simp; omega
    · rw [hlen, Nat.mul_one]
      rw [List.take_append_of_le_length (by simp; omega), List.take_of_length_le (by simp; omega), ← hc4, List.take_take, Nat.min_eq_left (by omega)]
    · by_cases hi : i < off
      · rw [List.getElem_append_left (by simp; omega), List.getElem_append_left (by simp; omega), List.getElem_take, List.getElem_take]
        have := h4 i (by omega) (by omega)
        exact ⟨this.1, Good.grown this.2 hgr fun r hr hc => hc.2 (by cases hr; rfl)⟩
      · rw [List.getElem_append_right (by simp; omega), List.getElem_append_right (by simp; omega), List.getElem_replicate, List.getElem_replicate]
        exact ⟨hz1, hz0 _ _⟩
  refine wpList_plain rfl fun K hK => ?_
  unfold Oper.wp
  rw [hrun]
  exact hK _ _ (h.on (hh.write hgr (.inl rfl) hok') (Fr.put (hf.mono fun _ _ hd => Hp.written (o := hQ b xs.length cap e R xs) (o' := hQ b xs.length cap e R (xs.take off ++ List.replicate n x0)) hgr (.inl rfl) hd) (d := dA) trivial))
end
end Go.Proofs.YtkedmlandjlogaaGreat
namespace Go.Proofs.YtkedmlandjlogaaGreat
abbrev Cx := List (List Vx)
def fewAllV (l : Cx) : Bool := decide (l.length ≤ 30) && l.all fun s => decide (s.length ≤ 10)
def insC : Cx → List Vx → Cx
  | [], s => [s]
  | x :: l, s => if cmpL s x < 0 then s :: x :: l else x :: insC l s
def putC (l : Cx) (s : List Vx) : Cx := if s ∈ l then l else insC l s
def coveredC (l : Cx) (s : List Vx) : Bool := l.any fun x => decide (s.length < x.length) && insideV s x
def topC (l : Cx) (s : List Vx) : Bool := decide (0 < s.length) && !coveredC l s
def maxC (l : Cx) : Cx := (l.filter (topC l)).foldl putC []
def chkO : Option (List Vx) → Cx → Int
  | _, [] => 0
  | p, s :: l => if chkV s ≠ 0 then chkV s else if (match p with | some u => decide (0 ≤ cmpL u s) | none => false) = true then 14 else chkO (some s) l
def twiceC (l : Cx) : Bool := (List.range l.length).any fun i => (List.range l.length).any fun k => decide (i ≠ k) && insideV (l.getD i []) (l.getD k [])
def chkC (l : Cx) : Int := if 4096 < l.length then 5 else if chkO none l ≠ 0 then chkO none l else if twiceC l = true then 7 else 0
def limC (l : Cx) : Cx × Int := if 4096 < l.length then ([], 5) else (l, 0)
def hasC' (c : Cx) (s : List Vx) : Bool := c.any fun f => insideV s f
def aroundC (c : Cx) (s : List Vx) : Cx := c.filter fun f => insideV s f
def placeC (c : Cx) (s : List Vx) : Int := if chkC c ≠ 0 then chkC c else if chkV s ≠ 0 then chkV s else if hasC' c s = true then 0 else 6
def allC (c : Cx) (k : Nat) : Cx := c.foldl (fun out f => if f.length < k then out else (subsV k f).foldl putC out) []
theorem insC_len : ∀ (l : Cx) (s : List Vx), (insC l s).length = l.length + 1
  | [], s => rfl
  | x :: l, s => by
    unfold insC
    split
    · rfl
    · simp [insC_len l s]
theorem putC_len (l : Cx) (s : List Vx) : l.length ≤ (putC l s).length ∧ (putC l s).length ≤ l.length + 1 := by
  unfold putC
  split
  · omega
  · rw [insC_len]; omega
theorem foldPut_len : ∀ (l out : Cx), out.length ≤ (l.foldl putC out).length ∧ (l.foldl putC out).length ≤ out.length + l.length
  | [], out => by simp
  | s :: l, out => by
    have h1 := foldPut_len l (putC out s)
    have h2 := putC_len out s
    simp only [List.foldl_cons, List.length_cons]
    omega
theorem chkO_drop (l : Cx) (k : Nat) (h : k < l.length) : chkO (l.take k).getLast? (l.drop k) = if chkV l[k] ≠ 0 then chkV l[k] else if (match (l.take k).getLast? with | some u => decide (0 ≤ cmpL u l[k]) | none => false) = true then 14 else chkO (l.take (k + 1)).getLast? (l.drop (k + 1)) := by
  rw [drop_cons' h]
  conv => lhs; unfold chkO
  have e : (l.take (k + 1)).getLast? = some l[k] := by rw [take_snoc' h, List.getLast?_append]; rfl
  rw [e]
theorem lastC_take (l : Cx) (k : Nat) (h : k < l.length) (h0 : 0 < k) : (l.take k).getLast? = some l[k - 1] := by
  rw [List.getLast?_eq_getElem?, List.length_take, Nat.min_eq_left (by omega), List.getElem?_take_of_lt (by omega), List.getElem?_eq_getElem (by omega)]
end Go.Proofs.YtkedmlandjlogaaGreat
namespace Go.Proofs.YtkedmlandjlogaaGreat
theorem cmpL_lt_trans {a b c : List Vx} (h : cmpL a b < 0) (k : cmpL b c < 0) : cmpL a c < 0 := by
  obtain ⟨h1, h2⟩ := cmpL_trans a b c (by omega) (by omega)
  rcases Int.lt_or_eq_of_le h1 with h3 | h3
  · exact h3
  · have := h2 h3; omega
theorem cmpL_irr (a : List Vx) : cmpL a a = 0 := cmpL_eq.2 rfl
theorem cmpL_cases (a b : List Vx) : cmpL a b < 0 ∨ cmpL b a < 0 ∨ a = b := by
  have h := cmpL_neg a b
  by_cases h1 : cmpL a b < 0
  · exact .inl h1
  by_cases h2 : cmpL b a < 0
  · exact .inr (.inl h2)
  · exact .inr (.inr (cmpL_eq.1 (by omega)))
def SortL (xs : Cx) : Prop := xs.Pairwise fun a b => ¬ cmpL b a < 0
def AscL (xs : Cx) : Prop := xs.Pairwise fun a b => cmpL a b < 0
theorem ascL_ext : ∀ {a b : Cx}, AscL a → AscL b → (∀ x, x ∈ a ↔ x ∈ b) → a = b
  | [], [], _, _, _ => rfl
  | [], y :: b, _, _, h => absurd ((h y).2 (by simp)) (by simp)
  | x :: a, [], _, _, h => absurd ((h x).1 (by simp)) (by simp)
  | x :: a, y :: b, ha, hb, h => by
    unfold AscL at ha hb
    rw [List.pairwise_cons] at ha hb
    have hxy : x = y := by
      have h1 := (h x).1 (by simp)
      have h2 := (h y).2 (by simp)
      rw [List.mem_cons] at h1 h2
      rcases h1 with h1 | h1
      · exact h1
      rcases h2 with h2 | h2
      · exact h2.symm
      have h3 := hb.1 x h1
      have h4 := ha.1 y h2
      have := cmpL_neg x y
      omega
    subst hxy
    rw [ascL_ext ha.2 hb.2 fun z => ?_]
    have h1 := h z
    rw [List.mem_cons, List.mem_cons] at h1
    constructor
    · intro hz
      rcases h1.1 (.inr hz) with rfl | h2
      · have := ha.1 z hz; have := cmpL_irr z; omega
      · exact h2
    · intro hz
      rcases h1.2 (.inr hz) with rfl | h2
      · have := hb.1 z hz; have := cmpL_irr z; omega
      · exact h2
theorem AscL.nodup {a : Cx} (h : AscL a) : a.Nodup := List.Pairwise.imp (fun {x y} hxy hc => by
  subst hc; have := cmpL_irr x; omega) h
def GoodL (xs : Cx) (m : Nat) (zs : Cx) : Prop := AscL zs ∧ (∀ v, v ∈ zs ↔ v ∈ xs.take m) ∧ zs.getLast? = xs[m - 1]?
theorem ascL_last {zs : Cx} {l : List Vx} (h : AscL zs) (hl : zs.getLast? = some l) : ∀ a ∈ zs, a = l ∨ cmpL a l < 0 := by
  obtain ⟨ys, rfl⟩ := List.getLast?_eq_some_iff.1 hl
  intro a ha
  rcases List.mem_append.1 ha with ha | ha
  · exact .inr ((List.pairwise_append.1 h).2.2 a ha l (by simp))
  · exact .inl (by simpa using ha)
theorem goodL_start {xs : Cx} (h : 1 ≤ xs.length) : GoodL xs 1 (xs.take 1) := by
  match xs, h with
  | x :: l, _ => exact ⟨by simp [AscL], fun v => Iff.rfl, by simp⟩
theorem goodL_push {xs zs : Cx} {m : Nat} (hs : SortL xs) (h : GoodL xs m zs) (h1 : 1 ≤ m) (h2 : m < xs.length) (hne : xs[m] ≠ xs[m - 1]'(by omega)) : GoodL xs (m + 1) (zs ++ [xs[m]]) := by
  obtain ⟨ha, hm, hl⟩ := h
  rw [List.getElem?_eq_getElem (by omega : m - 1 < xs.length)] at hl
  have hlt : cmpL (xs[m - 1]'(by omega)) xs[m] < 0 := by
    have h3 := (List.pairwise_iff_getElem.1 hs) (m - 1) m (by omega) h2 (by omega)
    rcases cmpL_cases (xs[m - 1]'(by omega)) xs[m] with k | k | k
    · exact k
    · exact absurd k h3
    · exact absurd k.symm hne
  refine ⟨List.pairwise_append.2 ⟨ha, by simp, fun a haz b hb => ?_⟩, fun v => ?_, by simp [h2]⟩
  · have hb' : b = xs[m] := by simpa using hb
    subst hb'
    rcases ascL_last ha hl a haz with rfl | h4
    · exact hlt
    · exact cmpL_lt_trans h4 hlt
  · rw [List.mem_append, hm, mem_take_snoc h2]; simp
theorem goodL_skip {xs zs : Cx} {m : Nat} (h : GoodL xs m zs) (h1 : 1 ≤ m) (h2 : m < xs.length) (he : xs[m] = xs[m - 1]'(by omega)) : GoodL xs (m + 1) zs := by
  obtain ⟨ha, hm, hl⟩ := h
  refine ⟨ha, fun v => ?_, ?_⟩
  · rw [hm, mem_take_snoc h2]
    refine ⟨.inl, fun h => h.elim id fun h => ?_⟩
    rw [h, he, List.mem_take_iff_getElem]
    exact ⟨m - 1, by omega, rfl⟩
  · rw [hl, Nat.add_sub_cancel, List.getElem?_eq_getElem h2, List.getElem?_eq_getElem (by omega), he]
theorem goodL_end {xs zs : Cx} {m : Nat} (h : GoodL xs m zs) (h2 : xs.length ≤ m) : AscL zs ∧ ∀ v, v ∈ zs ↔ v ∈ xs := ⟨h.1, fun v => by rw [h.2.1, List.take_of_length_le h2]⟩
theorem insC_mem : ∀ {l : Cx} {s x : List Vx}, x ∈ insC l s ↔ x = s ∨ x ∈ l
  | [], s, x => by simp [insC]
  | y :: l, s, x => by
    unfold insC
    split
    · simp
    · rw [List.mem_cons, insC_mem, List.mem_cons]
      constructor
      · rintro (h | h | h) <;> simp [h]
      · rintro (h | h | h) <;> simp [h]
theorem putC_mem {l : Cx} {s x : List Vx} : x ∈ putC l s ↔ x = s ∨ x ∈ l := by
  unfold putC
  split
  · rename_i h
    exact ⟨.inr, fun h' => h'.elim (fun e => e ▸ h) id⟩
  · exact insC_mem
theorem insC_asc : ∀ {l : Cx} {s : List Vx}, AscL l → s ∉ l → AscL (insC l s)
  | [], s, _, _ => by simp [insC, AscL]
  | y :: l, s, h, hs => by
    have h' := h
    unfold AscL at h'
    rw [List.pairwise_cons] at h'
    unfold insC
    split
    · rename_i hlt
      unfold AscL
      rw [List.pairwise_cons]
      refine ⟨fun a ha => ?_, h⟩
      rcases List.mem_cons.1 ha with rfl | ha
      · exact hlt
      · exact cmpL_lt_trans hlt (h'.1 a ha)
    · rename_i hlt
      unfold AscL
      rw [List.pairwise_cons]
      refine ⟨fun a ha => ?_, insC_asc h'.2 fun hc => hs (by simp [hc])⟩
      rcases insC_mem.1 ha with rfl | ha
      · rcases cmpL_cases a y with k | k | k
        · exact absurd k hlt
        · exact k
        · exact absurd (by rw [k]; simp) hs
      · exact h'.1 a ha
theorem putC_asc {l : Cx} {s : List Vx} (h : AscL l) : AscL (putC l s) := by
  unfold putC
  split
  · exact h
  · rename_i hs; exact insC_asc h hs
theorem foldPut_asc : ∀ {l out : Cx}, AscL out → AscL (l.foldl putC out)
  | [], _, h => h
  | s :: l, out, h => foldPut_asc (l := l) (putC_asc h)
theorem foldPut_mem : ∀ {l out : Cx} {x : List Vx}, x ∈ l.foldl putC out ↔ x ∈ l ∨ x ∈ out
  | [], out, x => by simp
  | s :: l, out, x => by
    rw [List.foldl_cons, foldPut_mem (l := l), putC_mem, List.mem_cons]
    constructor
    · rintro (h | h | h) <;> simp [h]
    · rintro ((h | h) | h) <;> simp [h]
theorem maxC_asc (l : Cx) : AscL (maxC l) := foldPut_asc (by simp [AscL])
theorem maxC_mem {l : Cx} {s : List Vx} : s ∈ maxC l ↔ s ∈ l ∧ topC l s = true := by
  unfold maxC
  rw [foldPut_mem, List.mem_filter]
  simp
theorem coveredC_iff {l : Cx} {s : List Vx} : coveredC l s = true ↔ ∃ x ∈ l, s.length < x.length ∧ insideV s x = true := by
  unfold coveredC
  simp
theorem coveredC_same {l l' : Cx} (h : ∀ x, x ∈ l ↔ x ∈ l') (s : List Vx) : coveredC l s = coveredC l' s := by
  rw [Bool.eq_iff_iff, coveredC_iff, coveredC_iff]
  constructor
  · rintro ⟨x, hx, hr⟩; exact ⟨x, (h x).1 hx, hr⟩
  · rintro ⟨x, hx, hr⟩; exact ⟨x, (h x).2 hx, hr⟩
theorem maxC_eq {l zs : Cx} (h0 : ∀ s ∈ l, 0 < s.length) (ha : AscL zs) (hm : ∀ u, u ∈ zs ↔ u ∈ l) : (zs.filter fun s => !coveredC zs s) = maxC l := by
  refine ascL_ext (List.Pairwise.filter _ ha) (maxC_asc l) fun s => ?_
  rw [List.mem_filter, maxC_mem, hm]
  unfold topC
  rw [coveredC_same hm]
  constructor
  · rintro ⟨h1, h2⟩; exact ⟨h1, by rw [decide_eq_true (h0 s h1)]; exact h2⟩
  · rintro ⟨h1, h2⟩; rw [decide_eq_true (h0 s h1)] at h2; exact ⟨h1, h2⟩
end Go.Proofs.YtkedmlandjlogaaGreat
namespace Go.Proofs.YtkedmlandjlogaaGreat
def SortV (xs : List Vx) : Prop := xs.Pairwise fun a b => ¬ cmpV b a < 0
def GoodC (xs : List Vx) (m : Nat) (zs : List Vx) : Prop := Asc zs ∧ (∀ v, v ∈ zs ↔ v ∈ xs.take m) ∧ zs.getLast? = xs[m - 1]?
theorem asc_last {zs : List Vx} {l : Vx} (h : Asc zs) (hl : zs.getLast? = some l) : ∀ a ∈ zs, a = l ∨ cmpV a l < 0 := by
  obtain ⟨ys, rfl⟩ := List.getLast?_eq_some_iff.1 hl
  intro a ha
  rcases List.mem_append.1 ha with ha | ha
  · exact .inr ((List.pairwise_append.1 h).2.2 a ha l (by simp))
  · exact .inl (by simpa using ha)
theorem good_start {xs : List Vx} (h : 1 ≤ xs.length) : GoodC xs 1 (xs.take 1) := by
  match xs, h with
  | x :: l, _ => exact ⟨by simp [Asc], fun v => Iff.rfl, by simp⟩
theorem good_push {xs zs : List Vx} {m : Nat} (hs : SortV xs) (h : GoodC xs m zs) (h1 : 1 ≤ m) (h2 : m < xs.length) (hne : xs[m] ≠ xs[m - 1]'(by omega)) : GoodC xs (m + 1) (zs ++ [xs[m]]) := by
  obtain ⟨ha, hm, hl⟩ := h
  rw [List.getElem?_eq_getElem (by omega : m - 1 < xs.length)] at hl
  have hlt : cmpV (xs[m - 1]'(by omega)) xs[m] < 0 := by
    have h3 := (List.pairwise_iff_getElem.1 hs) (m - 1) m (by omega) h2 (by omega)
    rcases cmpV_cases (xs[m - 1]'(by omega)) xs[m] with k | k | k
    · omega
    · omega
    · exact absurd k.2.2.symm hne
  refine ⟨List.pairwise_append.2 ⟨ha, by simp, fun a haz b hb => ?_⟩, fun v => ?_, by simp [h2]⟩
  · have hb' : b = xs[m] := by simpa using hb
    subst hb'
    rcases asc_last ha hl a haz with rfl | h4
    · exact hlt
    · exact cmpV_trans h4 hlt
  · rw [List.mem_append, hm, mem_take_snoc h2]; simp
theorem good_skip {xs zs : List Vx} {m : Nat} (h : GoodC xs m zs) (h1 : 1 ≤ m) (h2 : m < xs.length) (he : xs[m] = xs[m - 1]'(by omega)) : GoodC xs (m + 1) zs := by
  obtain ⟨ha, hm, hl⟩ := h
  refine ⟨ha, fun v => ?_, ?_⟩
  · rw [hm, mem_take_snoc h2]
    refine ⟨.inl, fun h => h.elim id fun h => ?_⟩
    rw [h, he, List.mem_take_iff_getElem]
    exact ⟨m - 1, by omega, rfl⟩
  · rw [hl, Nat.add_sub_cancel, List.getElem?_eq_getElem h2, List.getElem?_eq_getElem (by omega), he]
theorem good_end {xs zs : List Vx} {m : Nat} (h : GoodC xs m zs) (h2 : xs.length ≤ m) : Asc zs ∧ ∀ v, v ∈ zs ↔ v ∈ xs := ⟨h.1, fun v => by rw [h.2.1, List.take_of_length_le h2]⟩
end Go.Proofs.YtkedmlandjlogaaGreat
