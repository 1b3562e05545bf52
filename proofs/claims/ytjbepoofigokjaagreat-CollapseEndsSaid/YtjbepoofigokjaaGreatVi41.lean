/-
  Part 41 of the texts that the claims of this seat lean on: walks of the program's functions by contracts over symbolic frames, and plain laws of what they compute. No condition.
-/
import Derived.Deep.SlicePairs
import Derived.Lib.SmallJoins
import Derived.OpenShut
import Derived.ProofKit
import Derived.Test.YtjbepoofigokjaaGreatRows
import Derived.Test.YtjbepoofigokjaaGreatVi6
import Derived.Test.YtjbepoofigokjaaGreatVi9
import Derived.Test.YtjbepoofigokjaaGreatVi11
import Derived.Test.YtjbepoofigokjaaGreatVi25
import Derived.Test.YtjbepoofigokjaaGreatVi30
import Derived.Test.YtjbepoofigokjaaGreatVi35
import Derived.Test.YtjbepoofigokjaaGreatVi40
set_option linter.unusedVariables false
set_option linter.unusedSimpArgs false
set_option linter.unusedSectionVars false
namespace Go.Proofs.YtjbepoofigokjaaGreat
open Go.RowKit
section
variable {P : Program} {ops : Array Oper} {hp : List HObj} {fr : List Dat} {Q : Post} {rest : List Oper}
variable {dst : Option Tmp} {ty : TypeId} {ps : String} {af : Array Edge} {b cap : Nat} {e t : TypeId} {bytes : Nat} {z : Value} {ag : Bool} {α : Type} {R : Rel α} {_gR : Good R} {xs : List α}
def Two (us : List (List Value)) : Prop := ∀ u ∈ us, u.length = 2 ∧ ∀ c ∈ u, c.oneCell' = true
theorem Two.len {us : List (List Value)} (h : Two us) : us.flatten.length = us.length * 2 := flatten_len fun u hu => (h u hu).1
theorem Two.one {us : List (List Value)} (h : Two us) : ∀ c ∈ us.flatten, c.oneCell' = true := fun c hc => by
  obtain ⟨u, hu, hc⟩ := List.mem_flatten.1 hc
  exact (h u hu).2 c hc
theorem Two.sub {us vs : List (List Value)} (h : Two us) (hs : ∀ u ∈ vs, u ∈ us) : Two vs := fun u hu => h u (hs u hu)
def RowU (w : World) (g cap : Nat) (e : TypeId) (us : List (List Value)) : Prop :=
  ∃ tl : List Value, w.heap[g]? = some (.cells (us.flatten ++ tl).toArray e (0, 0)) ∧ us.length ≤ cap ∧ cap ≤ maxLen ∧ (us.flatten ++ tl).length = cap * 2
abbrev hK2 (b N cap : Nat) (e : TypeId) (R : Rel α) [Good R] (xs : List α) : HObj := hRowK (.slice (some ⟨b, 0, none⟩) N cap) e 2 R xs
theorem hK_row {I : Nat → Prop} {w : World} {N : Nat} : (hK2 b N cap e R xs).ok I w ↔ N = xs.length ∧ ∃ us, us.length = xs.length ∧ Two us ∧ RowU w b cap e us ∧ ∀ k (h : k < us.length) (h' : k < xs.length), R (fun j => I j ∧ j ≠ b) w (.agg us[k].toArray) xs[k] := by
  constructor
  · intro h
    obtain ⟨us, h1, h2, h0, ⟨hfl, h3⟩, h4⟩ := h
    rcases h3 with ⟨hz, _⟩ | ⟨g, cap', cur, hv, hB, hg, hc1, hc2, hc3, hc4⟩
    · cases hz
    · cases hv
      have hcur : us.flatten ++ cur.toList.drop (xs.length * 2) = cur.toList := by rw [← hc4, List.take_append_drop]
      refine ⟨rfl, us, h1, h2, ⟨cur.toList.drop (xs.length * 2), by rw [hcur]; exact hg, by omega, hc2, by rw [hcur]; simpa using hc3⟩, fun k a a' => Good.weak (h4 k a a') fun j hj => ⟨hj.1, fun e => hj.2 (by rw [e]; rfl)⟩⟩
  · rintro ⟨rfl, us, h1, h2, ⟨tl, hg, hc1, hc2, hc3⟩, h4⟩
    refine ⟨us, h1, h2, by decide, ⟨by rw [Two.len h2, h1], .inr ⟨b, cap, _, rfl, Nat.zero_le _, hg, by omega, hc2, by simpa using hc3, ?_⟩⟩, fun k a a' => Good.weak (h4 k a a') fun j hj => ⟨hj.1, fun e => hj.2 (by cases e; rfl)⟩⟩
    show (us.flatten ++ tl).take (xs.length * 2) = us.flatten
    rw [← h1, ← Two.len h2, List.take_left' rfl]
theorem rowU_write {w : World} {g : Nat} {us : List (List Value)} (hU : Two us) (h : RowU w g cap e us) (k : Nat) {ys : List (List Value)} (hY : Two ys) (hk : k + ys.length ≤ us.length) :
    RowU (w.setCells g (k * 2) ys.flatten) g cap e (us.take k ++ ys ++ us.drop (k + ys.length)) := by
  obtain ⟨tl, hg, hc1, hc2, hc3⟩ := h
  have e1 : us = us.take k ++ (us.drop k).take ys.length ++ us.drop (k + ys.length) := by
    rw [List.append_assoc, ← List.drop_drop, List.take_append_drop, List.take_append_drop]
  have hA : (us.take k).flatten.length = k * 2 := by rw [Two.len (hU.sub fun u hu => List.mem_of_mem_take hu), List.length_take]; congr 1; omega
  have hM : ((us.drop k).take ys.length).flatten.length = ys.flatten.length := by rw [Two.len (hU.sub fun u hu => List.mem_of_mem_drop (List.mem_of_mem_take hu)), Two.len hY, List.length_take, List.length_drop]; congr 1; omega
  have e2 : us.flatten ++ tl = (us.take k).flatten ++ ((us.drop k).take ys.length).flatten ++ ((us.drop (k + ys.length)).flatten ++ tl) := by
    conv => lhs; rw [e1]
    rw [List.flatten_append, List.flatten_append]; simp
  rw [e2] at hg
  have := heap_setCells_mid _ _ _ _ w hM hg
  rw [hA] at this
  have hlen : (us.take k ++ ys ++ us.drop (k + ys.length)).length = us.length := by simp; omega
  have hT : Two (us.take k ++ ys ++ us.drop (k + ys.length)) := fun u hu => by
    rcases List.mem_append.1 hu with hu | hu
    · rcases List.mem_append.1 hu with hu | hu
      · exact hU u (List.mem_of_mem_take hu)
      · exact hY u hu
    · exact hU u (List.mem_of_mem_drop hu)
  refine ⟨tl, ?_, by omega, hc2, ?_⟩
  · rw [this, List.flatten_append, List.flatten_append]; simp
  · rw [List.length_append, Two.len hU] at hc3
    rw [List.length_append, Two.len hT, hlen]; exact hc3
theorem rowU_cell {w : World} {g : Nat} {us : List (List Value)} (hU : Two us) (h : RowU w g cap e us) (j : Nat) (hj : j < us.length * 2) : w.cell? ⟨g, j, none⟩ = us.flatten[j]? ∧ w.frozen? ⟨g, j, none⟩ = false := by
  obtain ⟨tl, hg, _⟩ := h
  refine ⟨?_, by simp [World.frozen?, hg]⟩
  simp only [World.cell?, hg]
  simp only [Option.isSome_none, Bool.false_eq_true, if_false]
  rw [List.getElem?_toArray, List.getElem?_append_left (by rw [Two.len hU]; exact hj)]
theorem rowU_there {w : World} {g : Nat} {us : List (List Value)} (hU : Two us) (h : RowU w g cap e us) (o n : Nat) (hj : o + n ≤ us.length * 2) : w.there g o n := fun j hjn => by
  have := rowU_cell hU h (o + j) (by omega)
  refine ⟨?_, this.2⟩
  rw [this.1, List.getElem?_eq_getElem (by rw [Two.len hU]; omega)]
  rfl
theorem WL.writeK {o : Oper} {k N : Nat} {ys : List α} {r : Value} {d : Dat} (Y : List (List Value) → List (List Value)) (hg : o.guard = none) (hk : k + ys.length ≤ xs.length) (hdr : ∀ I w, d.rd I w r)
    (hYl : ∀ us, us.length = xs.length → (Y us).length = ys.length) (hYt : ∀ us, Two us → Two (Y us))
    (hYr : ∀ (I : Nat → Prop) (w : World) (us : List (List Value)), (∀ k (h : k < us.length) (h' : k < xs.length), R I w (.agg us[k].toArray) xs[k]) → us.length = xs.length → ∀ i (h : i < (Y us).length) (h' : i < ys.length), R I w (.agg (Y us)[i].toArray) ys[i])
    (hrun : ∀ {I : Nat → Prop} {w : World} {a : Act} {us : List (List Value)}, Fr I w a fr → us.length = xs.length → Two us → RowU w b cap e us → (execOp a.eval o).run P w = .ok (.value r) (w.setCells b (k * 2) (Y us).flatten))
    (h : WL P ops Q rest (setD fr o.dst d) (hK2 b N cap e R (xs.take k ++ ys ++ xs.drop (k + ys.length)) :: hp)) : WL P ops Q (o :: rest) fr (hK2 b N cap e R xs :: hp) := by
  refine WL.of fun P0 B w0 w a hh hf => ?_
  obtain ⟨hN, us, u1, u2, u3, u4⟩ := hK_row.1 ((hK2 b N cap e R xs).bound (hh.ok (hK2 b N cap e R xs) (by simp)))
  have hr := hrun hf u1 u2 u3
  have hgr : w.grownBy (w.setCells b (k * 2) (Y us).flatten) (hK2 b N cap e R xs).blk := row_grown
  have hyl := hYl us u1
  have hmv : ∀ (v : Value) (x : α), R (fun j => (Imm P0 B (hK2 b N cap e R xs :: hp) j ∧ j < w.heap.size) ∧ j ≠ b) w v x → R (fun j => (Imm P0 B (hK2 b N cap e R xs :: hp) j ∧ j < w.heap.size) ∧ j ≠ b) (w.setCells b (k * 2) (Y us).flatten) v x := fun v x hv =>
    Good.move hv fun j hj hlt => hgr.block j hlt fun he => hj.2 (by cases he; rfl)
  have hok : (hK2 b N cap e R (xs.take k ++ ys ++ xs.drop (k + ys.length))).ok (fun j => Imm P0 B (hK2 b N cap e R xs :: hp) j ∧ j < w.heap.size) (w.setCells b (k * 2) (Y us).flatten) := by
    refine hK_row.2 ⟨by rw [hN]; simp; omega, us.take k ++ Y us ++ us.drop (k + (Y us).length), by simp; omega, fun u hu => ?_, rowU_write u2 u3 k (hYt us u2) (by omega), fun i h1 h2 => hmv _ _ ?_⟩
    · rcases List.mem_append.1 hu with hu | hu
      · rcases List.mem_append.1 hu with hu | hu
        · exact u2 u (List.mem_of_mem_take hu)
        · exact hYt us u2 u hu
      · exact u2 u (List.mem_of_mem_drop hu)
    · have hul : us.length = xs.length := u1
      have hyr := hYr _ w us u4 u1
      have t1 : (us.take k).length = k := List.length_take_of_le (by omega)
      have t2 : (xs.take k).length = k := List.length_take_of_le (by omega)
      have t3 : (us.take k ++ Y us).length = k + ys.length := by rw [List.length_append, t1, hyl]
      have t4 : (xs.take k ++ ys).length = k + ys.length := by rw [List.length_append, t2]
      have hi2 : i < xs.length := by
        have := h2
        rw [List.length_append, t4, List.length_drop] at this
        omega
      have ga : ∀ {β : Type} (A B C : List β) (h : i < (A ++ B ++ C).length) (h' : i < (A ++ B).length), (A ++ B ++ C)[i] = (A ++ B)[i] := fun A B C h h' => List.getElem_append_left h'
      have gb : ∀ {β : Type} (A B : List β) (h : i < (A ++ B).length) (h' : i < A.length), (A ++ B)[i] = A[i] := fun A B h h' => List.getElem_append_left h'
      have gc : ∀ {β : Type} (A B : List β) (h : i < (A ++ B).length) (h' : A.length ≤ i), (A ++ B)[i] = B[i - A.length]'(by rw [List.length_append] at h; omega) := fun A B h h' => List.getElem_append_right h'
      by_cases hiy : i < k + ys.length
      · rw [ga (us.take k) (Y us) _ _ (by rw [t3]; exact hiy), ga (xs.take k) ys _ _ (by rw [t4]; exact hiy)]
        by_cases hik : i < k
        · rw [gb (us.take k) (Y us) _ (by rw [t1]; exact hik), gb (xs.take k) ys _ (by rw [t2]; exact hik), List.getElem_take, List.getElem_take]
          exact u4 i (by omega) (by omega)
        · rw [gc (us.take k) (Y us) _ (by rw [t1]; omega), gc (xs.take k) ys _ (by rw [t2]; omega)]
          simp only [t1, t2]
          exact hyr (i - k) (by omega) (by omega)
      · rw [gc (us.take k ++ Y us) _ _ (by rw [t3]; omega), gc (xs.take k ++ ys) _ _ (by rw [t4]; omega), List.getElem_drop, List.getElem_drop]
        have e1 : k + (Y us).length + (i - (us.take k ++ Y us).length) = i := by rw [t3, hyl]; omega
        have e2 : k + ys.length + (i - (xs.take k ++ ys).length) = i := by rw [t4]; omega
        simp only [e1, e2]
        exact u4 i (by omega) hi2
  refine wpList_plain hg fun K hK => ?_
  unfold Oper.wp
  rw [hr]
  exact hK _ _ (h.on (hh.write hgr (.inl rfl) hok) (Fr.put (hf.mono fun _ _ hd => Hp.written (o' := hK2 b N cap e R (xs.take k ++ ys ++ xs.drop (k + ys.length))) hgr (.inl rfl) hd) (d := d) (hdr _ _)))
theorem drop_getG {us : List (List Value)} (hU : Two us) {j : Nat} (hj : j ≤ us.length) (q : Nat) : (us.drop j).flatten[q]? = us.flatten[j * 2 + q]? := by
  have e : us.flatten = (us.take j).flatten ++ (us.drop j).flatten := by rw [← List.flatten_append, List.take_append_drop]
  have hl : (us.take j).flatten.length = j * 2 := by rw [Two.len (hU.sub fun u hu => List.mem_of_mem_take hu), List.length_take]; congr 1; omega
  rw [e, List.getElem?_append_right (by omega), hl]
  congr 1; omega
theorem WL.shiftK {s y : Operand} {i j N m c of : Nat} (E : ElT P t e 2 z bytes ag) (hs : OpD fr s (dX (.slice (some ⟨b, 0, none⟩) i cap))) (hy : OpD fr y (dX (.slice (some ⟨b, of, none⟩) m c))) (hm : m = xs.length - j) (ho : 0 < m → of = j * 2) (hij : i ≤ j) (hj : j ≤ xs.length)
    (h : WL P ops Q rest (setD fr dst (dX (.slice (some ⟨b, 0, none⟩) (i + m) cap))) (hK2 b N cap e R (xs.take i ++ xs.drop j ++ xs.drop (i + m)) :: hp)) :
    WL P ops Q ({ dst := dst, op := .call { callee := .builtin .append, args := #[s, y], argTypes := #[t, t] }, type := ty, pos := ps, after := af, guard := none } :: rest) fr (hK2 b N cap e R xs :: hp) := by
  subst hm
  have hl : (xs.drop j).length = xs.length - j := List.length_drop
  refine WL.writeK (k := i) (ys := xs.drop j) (r := .slice (some ⟨b, 0, none⟩) (i + (xs.length - j)) cap) (d := dX _) (fun us => us.drop j) rfl (by rw [hl]; omega) (fun _ _ => rfl) (fun us hus => by simp [hus]) (fun us hU => hU.sub fun u hu => List.mem_of_mem_drop hu)
    (fun I w us hR hus k h1 h2 => by
      rw [List.getElem_drop, List.getElem_drop]
      exact hR (j + k) (by simp at h1; omega) (by simp at h2; omega)) (fun {I w a us} hf hus hU hrow => ?_) (by rw [hl]; exact h)
  have h1 : a.eval s = _ := hs.ev hf
  have h2 : a.eval y = _ := hy.ev hf
  obtain ⟨i0, hi, hz, hsz, hbt⟩ := info_parts E.info
  have hcap : us.length ≤ cap := by obtain ⟨tl, _, hc1, _⟩ := hrow; exact hc1
  have hcell : ∀ q, q < us.length * 2 → w.cell? ⟨b, q, none⟩ = us.flatten[q]? ∧ w.frozen? ⟨b, q, none⟩ = false := fun q hq => rowU_cell hU hrow q hq
  have hD : Two (us.drop j) := hU.sub fun u hu => List.mem_of_mem_drop hu
  have hfl : (us.drop j).flatten.length = (xs.length - j) * 2 := by rw [Two.len hD, List.length_drop, hus]
  have hr := run_append_room_cells (P := P) w t ty e i0 E.und hi b 0 i cap ⟨b, of, none⟩ (xs.length - j) c (us.drop j).flatten (by rw [hfl, hsz]) (fun q u hu => by
      have hq : q < (xs.length - j) * 2 := by have := (List.getElem?_eq_some_iff.1 hu).1; omega
      rw [ho (by omega), Addr.add_lit, (hcell _ (by omega)).1, ← drop_getG hU (by omega)]
      exact hu) hD.one (by omega) (fun q hq => by
      rw [hsz, Nat.zero_add, (hcell _ (by omega)).1, List.getElem?_eq_getElem (by rw [Two.len hU]; omega)]
      rfl) (fun q hq => by rw [hsz, Nat.zero_add]; exact (hcell _ (by omega)).2)
  rw [hsz, Nat.zero_add] at hr
  unfold execOp
  simp only [resolve, invoke, builtin, List.map_toArray, List.map_cons, List.map_nil, h1, h2, Sem.run_bind, Sem.run_pure, Result.andThen_ok, hr]
theorem WL.clearK {x : Operand} {off n m k N : Nat} {x0 : α} {z0' z1' : Value} (o0 : z0'.oneCell' = true) (o1 : z1'.oneCell' = true) (hu : P.underlying t = some (.slice e)) (hz : ∀ w, (zeroValue e).run P w = .ok (.agg #[z0', z1']) w) (hz0 : ∀ I w, R I w (.agg #[z0', z1']) x0) (hx : OpD fr x (dX (.slice (some ⟨b, off, none⟩) n m))) (hj : off = k * 2) (hn : 0 < n) (hk : k + n = xs.length)
    (h : WL P ops Q rest (setD fr dst dA) (hK2 b N cap e R (xs.take k ++ List.replicate n x0) :: hp)) : WL P ops Q ({ dst := dst, op := .call { callee := .builtin .clear, args := #[x], argTypes := #[t] }, type := ty, pos := ps, after := af, guard := none } :: rest) fr (hK2 b N cap e R xs :: hp) := by
  have hT : Two (List.replicate n [z0', z1']) := fun u hu => by
    obtain rfl := List.eq_of_mem_replicate hu
    exact ⟨rfl, fun c hc => by
      simp only [List.mem_cons, List.not_mem_nil, or_false] at hc
      rcases hc with rfl | rfl <;> assumption⟩
  refine WL.writeK (k := k) (ys := List.replicate n x0) (r := .tuple #[]) (d := dA) (fun _ => List.replicate n [z0', z1']) rfl (by simp; omega) (fun _ _ => trivial) (fun us hus => by simp) (fun us _ => hT)
    (fun I w us hR hus i h1 h2 => by rw [List.getElem_replicate, List.getElem_replicate]; exact hz0 I w) (fun {I w a us} hf hus hU hrow => ?_) ?_
  · have h1 : a.eval x = _ := hx.ev hf
    subst hj
    have hzc : (Builtin.zeroCells #[z0', z1'] n).toList = (List.replicate n [z0', z1']).flatten := by
      simp only [Builtin.zeroCells]
      apply List.ext_getElem?
      intro i
      have hl : ∀ u ∈ List.replicate n [z0', z1'], u.length = 2 := fun u hu => by rw [List.eq_of_mem_replicate hu]; rfl
      by_cases hi : i < n * 2
      · have hd : i / 2 < (List.replicate n [z0', z1']).length := by rw [List.length_replicate]; omega
        have hm2 : i % 2 < 2 := Nat.mod_lt _ (by decide)
        have hg : (List.replicate n [z0', z1'])[i / 2][i % 2]? = some ([z0', z1'][i % 2]'hm2) := by
          rw [List.getElem_replicate]; exact List.getElem?_eq_getElem hm2
        have h4 := flatten_get hl hd hg
        rw [show i / 2 * 2 + i % 2 = i by omega] at h4
        rw [h4]
        rcases (by omega : i % 2 = 0 ∨ i % 2 = 1) with h5 | h5 <;> simp [h5, hi]
      · rw [List.getElem?_eq_none (by simp; omega), List.getElem?_eq_none (by rw [flatten_len hl, List.length_replicate]; omega)]
    have hlen : (List.replicate n [z0', z1']).flatten.length = n * 2 := by rw [Two.len hT, List.length_replicate]
    have hst := run_storeCells_cells (P := P) b (k * 2) (List.replicate n [z0', z1']).flatten 0 w (fun j hj => by
      rw [hlen] at hj
      exact ((rowU_there hU hrow (k * 2) (n * 2) (by omega)) j hj).1) (fun j hj => by
      rw [hlen] at hj
      exact ((rowU_there hU hrow (k * 2) (n * 2) (by omega)) j hj).2) hT.one
    obtain ⟨m', rfl⟩ : ∃ m, n = m + 1 := ⟨n - 1, by omega⟩
    unfold execOp
    simp [resolve, invoke, builtin, h1, Builtin.clear_, run_underlying hu, hz, Value.cells, hzc, hst]
  · have e1 : xs.take k ++ List.replicate n x0 ++ xs.drop (k + (List.replicate n x0).length) = xs.take k ++ List.replicate n x0 := by
      rw [List.length_replicate, hk, List.drop_length, List.append_nil]
    rw [e1]; exact h
theorem hK_cut {I : Nat → Prop} {w : World} {N k : Nat} (hk : k ≤ xs.length) (h : (hK2 b N cap e R xs).ok I w) : (hK2 b k cap e R (xs.take k)).ok I w := by
  obtain ⟨hN, us, u1, u2, ⟨tl, hg, hc1, hc2, hc3⟩, u4⟩ := hK_row.1 h
  have e1 : us.flatten ++ tl = (us.take k).flatten ++ ((us.drop k).flatten ++ tl) := by rw [← List.append_assoc, ← List.flatten_append, List.take_append_drop]
  refine hK_row.2 ⟨by simp; omega, us.take k, by simp; omega, u2.sub fun u hu => List.mem_of_mem_take hu, ⟨(us.drop k).flatten ++ tl, by rw [← e1]; exact hg, by simp; omega, hc2, by rw [← e1]; exact hc3⟩, fun i h1 h2 => ?_⟩
  rw [List.getElem_take, List.getElem_take]
  rw [List.length_take] at h1 h2
  exact u4 i (by omega) (by omega)
theorem WL.cutK {k N : Nat} (hk : k ≤ xs.length) (h : WL P ops Q rest fr (hK2 b k cap e R (xs.take k) :: hp)) : WL P ops Q rest fr (hK2 b N cap e R xs :: hp) := WL.of fun P0 B w0 w a hh hf => by
  have hgr : w.grownBy w (hK2 b N cap e R xs).blk := ⟨rfl, rfl, rfl, Nat.le_refl _, fun _ _ _ => rfl⟩
  have hok := hK_cut hk ((hK2 b N cap e R xs).bound (hh.ok (hK2 b N cap e R xs) (by simp)))
  exact h.on (hh.write hgr (.inl rfl) hok) (hf.mono fun _ _ hd => Hp.written (o' := hK2 b k cap e R (xs.take k)) hgr (.inl rfl) hd)
theorem WC.openK {c : Code} {v : Value} (hne : 0 < xs.length) (h : ∀ b cap, v = .slice (some ⟨b, 0, none⟩) xs.length cap → xs.length ≤ cap → cap ≤ maxLen → WC P Q c fr (hRowK v e 2 R xs :: hp)) : WC P Q c fr (hRowK v e 2 R xs :: hp) := WC.of fun P0 B w0 w a hh hf => by
  obtain ⟨us, h1, h2, h0, ⟨_, h3⟩, h4⟩ := hh.ok (hRowK v e 2 R xs) (by simp)
  rcases h3 with ⟨_, hz⟩ | ⟨g, cap, cur, hv, hB, hg, hc1, hc2, _⟩
  · omega
  · exact (h g cap hv hc1 hc2).on hh hf
end
end Go.Proofs.YtjbepoofigokjaaGreat
namespace Go.Proofs.YtjbepoofigokjaaGreat
open Go.RowKit
set_option linter.unusedSimpArgs false

set_option maxHeartbeats 2000000
set_option maxRecDepth 100000
theorem nil_Kn {α : Type} {n : Nat} {R : Rel α} [Good R] {xs : List α} {I : Nat → Prop} {w : World} {v : Value} (h : (dS (ArrK n R) xs).rd I w v) : ∃ a m c, v = .slice a m c ∧ (a = none → m = 0) := by
  obtain ⟨ad, cap, rfl, h1, h2, h0, h3⟩ := (h : ArrK n R I w v xs)
  refine ⟨_, _, _, rfl, fun hn => ?_⟩
  rcases Nat.eq_zero_or_pos xs.length with hz | hz
  · exact hz
  · obtain ⟨us, b, off, _, _, _, had, _, _⟩ := h3 0 hz
    rw [hn] at had; cases had
theorem eqNilCo : ∀ (x y : Operand) ad m c w, (do eqGuard .eql 27 x y (.slice ad m c) (.slice none 0 0); Go.binOp .eql 27 (.slice ad m c) (.slice none 0 0)).run Tryz.prog w = .ok (.bool ad.isNone) w := by
  intro x y ad m c w
  cases ad <;> (go_simp; try (unfold Go.binOp; simp only; unfold Op.equal Op.maxDepth Op.equalIn; simp [run_underlying Tryz.underlying27]))
theorem clone_co (xs : List Cl) (hl : xs.length ≤ 1000000) : InC Tryz.prog 31 [dS Cols xs] [] fun d' hp2 => ∃ v, d' = dX v ∧ (hp2 = [hRowK v 36 2 Col xs] ∨ v = .slice none 0 0 ∧ xs = [] ∧ hp2 = []) := by
  (refine InC.intro Tryz.func31 rfl rfl (fun hp gh hgh => ?_); simp only [Tryz.ntmps31, List.length_cons, List.length_nil, Nat.reduceAdd, Nat.reduceSub, List.replicate_succ, List.replicate_zero, List.cons_append, List.nil_append])
  ((repeat' (first |  (refine WL.openE 4 rfl fun b hb => ?_; dsimp only [z0, z1]) | (apply WL.opN; exact yF; dsimp only [setD, z0, z1]) | refine WL.nil ?_ | refine WC.seqK fun Kx hK => ?_ | (refine hK _ _ ?_; clear hK) | refine WC.region ?_ |  (apply WL.build0K elCo Col (by decide); (intro _; dsimp only [setD, z0, z1]); all_goals (try infer_instance)) | ((first | apply WL.appK | apply WL.app1); (exact eD); exact OpD.t rfl; (exact oD); decide; (exact lD); (intro _; dsimp only [setD, z0, z1]); all_goals (try infer_instance)) | (apply WL.opN; (focus ((first | (apply SY.eqNil; exact OpD.t rfl; (exact fun _ _ _ h => nil_Kn h); exact len_K; exact eqNilCo) | fail); all_goals infer_instance)); dsimp only [setD, z0, z1]) | (apply WC.cond; (exact oD); all_goals (intro h; try exact xD)) | refine WC.skip ?_ | refine WC.ret ?_ | refine ThenD.r ?_)); all_goals (first | ((repeat clear hK); (repeat clear Kx))))
  · exact ⟨trivial, _, [], rfl, rfl, _, rfl, .inr ⟨rfl, hb h, rfl⟩⟩
  · exact ⟨trivial, _, [_], rfl, rfl, _, rfl, .inl (by rw [List.nil_append])⟩
theorem col0 : ∀ (I : Nat → Prop) (w : World), Col I w (.agg #[.slice none 0 0, .slice none 0 0]) ([], []) := fun I w =>
  ⟨_, _, rfl, rfl, rfl, (ArrK.nil' (n := 2) (by decide) : ArrK 2 RV _ _ _ []), (ArrK.nil' (n := 2) (by decide) : ArrK 2 RV _ _ _ [])⟩
set_option maxHeartbeats 8000000 in
theorem delete_co (v : Value) (xs : List Cl) (i : Nat) (hi : i < xs.length) (hl : xs.length ≤ 1000000) : CallC Tryz.prog 30 [dX v, dI (i : Int), dI ((i : Int) + 1)] [hRowK v 36 2 Col xs] fun d' hp2 => ∃ u, d' = dX u ∧ hp2 = [hRowK u 36 2 Col (xs.take i ++ xs.drop (i + 1))] := by
  (refine CallC.intro Tryz.func30 rfl rfl (fun hp => ?_); simp only [Tryz.ntmps30, List.length_cons, List.length_nil, List.length_append, List.length_map, Nat.reduceAdd, Nat.reduceSub, List.replicate_succ, List.replicate_zero, List.cons_append, List.nil_append, List.map_cons, List.map_nil, List.append_assoc])
  refine WC.openK (by omega) fun b cap hv hc1 hc2 => ?_
  subst hv
  simp only [maxLen] at hc2
  have hm : xs.length - (i + 1) = xs.length - (i + 1) := rfl
  ((repeat' (first |  (apply WC.drawTail 6; kernel_rfl; kernel_rfl; simp only [List.take_succ_cons, List.take_zero, List.drop_succ_cons, List.drop_zero]) | ((first | apply WL.opN | apply WD.opN); exact yF; dsimp only [setD, z0, z1]) | refine WL.nil ?_ | refine WD.nil ?_ | refine WC.seqK fun Kx hK => ?_ | (refine hK _ _ ?_; clear hK) | refine WC.region ?_ |  (apply WL.shiftK (i := i) (j := i + 1) elCo; exact OpD.t rfl; exact OpD.t rfl; exact hm; (intro hpos; rw [if_neg (by omega)]; omega); omega; omega; dsimp only [setD, z0, z1]) |  (apply WL.clearK (k := i + (xs.length - (i + 1))) (n := xs.length - (i + (xs.length - (i + 1)))) (x0 := (([], []) : Cl)) rfl rfl Tryz.underlying27 Tryz.zeroValue36 col0; exact OpD.t rfl; (rw [if_neg (by omega)]; omega); omega; (simp only [List.length_append, List.length_take, List.length_drop]; omega); dsimp only [setD, z0, z1]; refine WL.cutK (k := i + (xs.length - (i + 1))) ?_ ?_; (simp only [List.length_append, List.length_take, List.length_drop, List.length_replicate]; omega)) | ((first | apply WL.opN | apply WD.opN); (focus ((first | (apply SY.maxO (l := i) (k := i + 1) (q := xs.length) elCo; exact OpD.t rfl; exact OpD.t rfl; exact OpD.t rfl; exact OpD.t rfl; rfl; omega; rfl; omega; omega; omega) | (apply SY.uptoO (l := i) elCo; exact OpD.t rfl; exact OpD.t rfl; rfl; omega; omega; omega) | (apply SY.fromP (l := i + 1) elCo; exact OpD.t rfl; exact OpD.t rfl; omega; omega; omega) | (apply SY.midO (l := i + (xs.length - (i + 1))) (k := xs.length) elCo; exact OpD.t rfl; exact OpD.t rfl; exact OpD.t rfl; rfl; rfl; omega; omega) | ((first | apply SY.move | apply SY.assign | apply SY.eql) <;> (exact oD)) | (apply SY.len; (exact oD); (exact nD); (exact uD)) | fail); all_goals infer_instance)); dsimp only [setD, z0, z1]) | (apply WC.condD; (exact oD); all_goals (intro h; try exact xD)) | refine WC.skip ?_ | refine WC.ret ?_)); all_goals (first | ((repeat clear hK); (repeat clear Kx))))
  all_goals first | (exfalso; omega) | skip
  refine ⟨trivial, _, [_], rfl, rfl, _, rfl, ?_⟩
  have e1 : (xs.take i ++ xs.drop (i + 1)).length = i + (xs.length - (i + 1)) := by simp only [List.length_append, List.length_take, List.length_drop]; omega
  have e2 : List.take (i + (xs.length - (i + 1))) (List.take (i + (xs.length - (i + 1))) (List.take i xs ++ List.drop (i + 1) xs ++ List.drop (i + (xs.length - (i + 1))) xs) ++ List.replicate (xs.length - (i + (xs.length - (i + 1)))) (([], []) : Cl)) = List.take i xs ++ List.drop (i + 1) xs := by
    rw [← e1, List.take_left' rfl, List.take_left' rfl]
  rw [e2]
end Go.Proofs.YtjbepoofigokjaaGreat
namespace Go.Proofs.YtjbepoofigokjaaGreat
open Go.RowKit
set_option linter.unusedSimpArgs false

set_option maxHeartbeats 2000000
set_option maxRecDepth 100000
set_option maxHeartbeats 16000000 in
theorem ends32_p (l : Cx) (w : Int) (hw : 0 ≤ w ∧ w ≤ 255) : Fn Tryz.prog 7 [dS Cpx l, dX (.int .u8 w)] (dB true) := by
  (refine Fn.intro1 Tryz.func7 rfl rfl ?_; simp only [Tryz.ntmps7, List.length_cons, List.length_nil, Nat.reduceAdd, Nat.reduceSub, List.replicate_succ, List.replicate_zero, List.cons_append, List.nil_append])
  have c0 := good32_p l
  cases hg : goodK l with
  | false =>
    rw [hg] at c0
    ((repeat' (first | (apply WL.opN; exact yF; dsimp only [setD, z0, z1]) | refine WL.nil ?_ | refine WC.seqK fun Kx hK => ?_ | (refine hK _ _ ?_; clear hK) | refine WC.region ?_ | (apply WL.opG; (focus (first | exact wN | (apply SYG.yes; (exact wY); ((first | (apply SY.call (c0) Tryz.call29; (exact aD)) | (apply SY.call (awake32_p) Tryz.call12; (exact aD)) | ((first | apply SY.move | apply SY.assign | apply SY.eql | apply SY.neq | apply SY.not) <;> (exact oD)) | (apply SY.box; (exact oD); (exact hD)) | fail); all_goals infer_instance)))); dsimp only [setD, z0, z1]) | (apply WC.condNB; (exact oD); all_goals (intro h; try exact xD)) | refine WC.ret ?_ | refine ThenD.r ?_)); all_goals (first | ((repeat clear hK); (repeat clear Kx))))
    all_goals first | (exfalso; omega) | (refine ⟨trivial, _, rfl, ?_⟩; exact fD)
  | true =>
    rw [hg] at c0
    obtain ⟨G, hwh, hf⟩ := goodK_of hg
    have R := red_ok G (by omega)
    have hred : redK l = ((reducedC l).1, (reducedC l).2, 0) := by
      unfold redK
      rw [if_neg (by rw [goodX_iff.2 G]; omega), if_neg (by omega)]
    have hwd : wholeN (reducedC l).1 8 ≤ 260 := by have := R.whole; omega
    have c1 := reduce32_p l
    rw [hred] at c1
    have c2 := free32_p (reducedC l).1
    rw [show freeK (reducedC l).1 = ([], 0) by rw [show freeK (reducedC l).1 = (pairsC (reducedC l).1, 0) from if_neg (by rw [goodX_iff.2 R.good]; omega), R.ends]] at c2
    have c3 := reduce32_p (reducedC l).1
    rw [show redK (reducedC l).1 = ((reducedC l).1, [], 0) by
      unfold redK
      rw [if_neg (by rw [goodX_iff.2 R.good]; omega), if_neg (by omega), red_again R.ends]] at c3
    have hml := R.whole
    have c4 := verify32_p l (reducedC l).2 (reducedC l).1 fun _ => by omega
    rw [ver_yes G R.good (by omega) R.steps] at c4
    by_cases h0 : (reducedC l).2.length = 0
    · have hl0 : (reducedC l).1 = l := by
        have h := R.steps
        rw [List.eq_nil_of_length_eq_zero h0] at h
        exact (Option.some.inj h).symm
      have h2 : (reducedC l).2 = [] := List.eq_nil_of_length_eq_zero h0
      rw [hl0] at c1 c2 c3 c4
      rw [h2] at c1 c4
      ((repeat' (first | (apply WL.opN; exact yF; dsimp only [setD, z0, z1]) | refine WL.nil ?_ | refine WC.seqK fun Kx hK => ?_ | (refine hK _ _ ?_; clear hK) | refine WC.region ?_ | (apply WL.alloc; (first | exact tzV | exact tzC); (first | exact shape_X rfl | exact shape_XV | exact shape_C0 rfl); (intro _; dsimp only [setD, z0, z1])) | (apply WL.storeF; (exact tD); rfl; (exact oD); (exact hD); dsimp only [setD, z0, z1]) | (apply WL.opG; (focus (first | exact wN | (apply SYG.yes; (exact wY); ((first | (apply SY.call (c0) Tryz.call29; (exact aD)) | (apply SY.call (c1) Tryz.call20; exact ArgsD.cons (OpD.t rfl) (ArgsD.nil)) | (apply SY.call (c3) Tryz.call20; exact ArgsD.cons (OpD.t rfl) (ArgsD.nil)) | (apply SY.call (c2) Tryz.call13; (exact aD)) | (apply SY.call (sameC_self _) Tryz.call19; (exact aD)) | (apply SY.call (c4) Tryz.call27; exact ArgsD.cons (OpD.t rfl) (ArgsD.cons (OpD.t rfl) (ArgsD.cons (OpD.t rfl) (ArgsD.nil)))) | (apply SY.call (awake32_p) Tryz.call12; (exact aD)) | ((first | apply SY.move | apply SY.assign | apply SY.eql | apply SY.neq | apply SY.not) <;> (exact oD)) | ((first | apply SY.add | apply SY.rem) <;> first | exact oD | omega) | (apply SY.load; (exact tD); (exact oD)) | (apply SY.len; (exact oD); (exact nD); (exact uD)) | (apply SY.pickT; (exact oD); (with_reducible rfl); (exact oD)) | (apply SY.pickF; (exact oD); (with_reducible rfl); (exact oD)) | (apply SY.extract; (exact oD); rfl) | (apply SY.box; (exact oD); (exact hD)) | fail); all_goals infer_instance)))); dsimp only [setD, z0, z1]) | ((first | refine WL.caseP rfl rfl rfl (fun h => ?_) (fun h => ?_) | refine WL.caseN rfl rfl rfl (fun h => ?_) (fun h => ?_) | refine WL.caseB rfl rfl rfl (fun h => ?_) (fun h => ?_)) <;> (first | (exfalso; first | omega | contradiction) | (dsimp only [z0, z1]))) | (apply WC.condD; (exact oD); all_goals (intro h; try exact xD)) | (apply WC.condN; (exact oD); all_goals (intro h; try exact xD)) | (apply WC.condNB; (exact oD); all_goals (intro h; try exact xD)) | refine WC.skip ?_ | refine WC.ret ?_ | refine ThenD.r ?_)); all_goals (first | ((repeat clear hK); (repeat clear Kx))))
      all_goals first | (exfalso; omega) | (refine ⟨trivial, _, rfl, ?_⟩; exact fD)
    · have hpos : 0 < (reducedC l).2.length := by omega
      obtain ⟨q, hq, hqn⟩ := rem_ok hw.1 hpos
      have c5 := verify32_p l (reducedC l).2 l fun _ => by omega
      rw [ver_not G (by omega) G (by omega) (by omega)] at c5
      have c6 := verify32_p l ((reducedC l).2.take q ++ (reducedC l).2.drop (q + 1)) (reducedC l).1 fun _ => by omega
      have hlen : ((reducedC l).2.take q ++ (reducedC l).2.drop (q + 1)).length + 1 = (reducedC l).2.length := by
        rw [List.length_append, List.length_take, List.length_drop]; omega
      rw [ver_not G (by omega) R.good (by omega) (by omega)] at c6
      have c7 := clone_co (reducedC l).2 (by omega)
      have c8 := fun v => delete_co v (reducedC l).2 q hqn (by omega)
      clear R hlen
      generalize (reducedC l).2 = M at *
      generalize (reducedC l).1 = D at *
      ((repeat' (first | (apply WL.opN; exact yF; dsimp only [setD, z0, z1]) | refine WL.nil ?_ | refine WC.seqK fun Kx hK => ?_ | (refine hK _ _ ?_; clear hK) | refine WC.region ?_ |  (apply WL.outRow (by decide) c7 Tryz.call31; (exact aD); intro vc; dsimp only [setD, z0, z1]) |  (refine WL.callC (hp1 := [_]) (caps := []) (c8 _) Tryz.call30 OpD.f (ArgsD.cons (OpD.t rfl) (ArgsD.cons (OpD.tle rfl (le_ii hq)) (ArgsD.cons (OpD.tle rfl (le_ii (by omega))) ArgsD.nil))) ?_; rintro d' hp2 ⟨vd, rfl, rfl⟩; dsimp only [setD, z0, z1, List.cons_append, List.nil_append]) | (apply WL.alloc; (first | exact tzV | exact tzC); (first | exact shape_X rfl | exact shape_XV | exact shape_C0 rfl); (intro _; dsimp only [setD, z0, z1])) | (apply WL.storeF; (exact tD); rfl; (exact oD); (exact hD); dsimp only [setD, z0, z1]) | (apply WL.opG; (focus (first | exact wN | (apply SYG.yes; (exact wY); ((first | (apply SY.call (c0) Tryz.call29; (exact aD)) | (apply SY.call (c1) Tryz.call20; exact ArgsD.cons (OpD.t rfl) (ArgsD.nil)) | (apply SY.call (c3) Tryz.call20; exact ArgsD.cons (OpD.t rfl) (ArgsD.nil)) | (apply SY.call (c2) Tryz.call13; (exact aD)) | (apply SY.call (sameC_self _) Tryz.call19; (exact aD)) | (apply SY.call (c4) Tryz.call27; exact ArgsD.cons (OpD.t rfl) (ArgsD.cons (OpD.t rfl) (ArgsD.cons (OpD.t rfl) (ArgsD.nil)))) | (apply SY.call (c5) Tryz.call27; exact ArgsD.cons (OpD.t rfl) (ArgsD.cons (OpD.t rfl) (ArgsD.cons (OpD.t rfl) (ArgsD.nil)))) | (apply SY.callB c6 bare_I Tryz.call27; exact bD) | (apply SY.convX; exact OpD.t rfl; exact cvU8 _ hw) | (apply SY.call (awake32_p) Tryz.call12; (exact aD)) | ((first | apply SY.move | apply SY.assign | apply SY.eql | apply SY.neq | apply SY.not) <;> (exact oD)) | ((first | apply SY.add | apply SY.rem) <;> first | exact oD | omega) | (apply SY.load; (exact tD); (exact oD)) | (apply SY.len; (exact oD); (exact nD); (exact uD)) | (apply SY.pickT; (exact oD); (with_reducible rfl); (exact oD)) | (apply SY.pickF; (exact oD); (with_reducible rfl); (exact oD)) | (apply SY.extract; (exact oD); rfl) | (apply SY.box; (exact oD); (exact hD)) | fail); all_goals infer_instance)))); dsimp only [setD, z0, z1]) | ((first | refine WL.caseP rfl rfl rfl (fun h => ?_) (fun h => ?_) | refine WL.caseN rfl rfl rfl (fun h => ?_) (fun h => ?_) | refine WL.caseB rfl rfl rfl (fun h => ?_) (fun h => ?_)) <;> (first | (exfalso; first | omega | contradiction) | (dsimp only [z0, z1]))) | (apply WC.condD; (exact oD); all_goals (intro h; try exact xD)) | (apply WC.condN; (exact oD); all_goals (intro h; try exact xD)) | (apply WC.condNB; (exact oD); all_goals (intro h; try exact xD)) | refine WC.skip ?_ | refine WC.ret ?_)); all_goals (first | ((repeat clear hK); (repeat clear Kx))))
      all_goals first | (exfalso; omega) | (refine ⟨trivial, _, rfl, ?_⟩; exact fD)
end Go.Proofs.YtjbepoofigokjaaGreat
namespace Go.Proofs.YtjbepoofigokjaaGreat
open Go.ChangeShapes Go.WideShapes Go.ChangeAt Go.RowKit
set_option maxRecDepth 100000

theorem own : ownKnob Tryz.prog.godebug = none := by kernel_rfl
theorem laidOut : laidOutB Tryz.prog = true := by kernel_rfl
theorem cellsV : Tryz.prog.cellsOf 63 = 2 := by kernel_rfl
theorem cellsS : Tryz.prog.cellsOf 34 = 1 := by kernel_rfl
theorem cellsI : Tryz.prog.cellsOf 3 = 1 := by kernel_rfl

section
variable {H : Type} {enc : TypeId × Value → H}
theorem open_V {w : World} {fuel : Nat} {v : Value} {x : DataW H × List MemPlace} (h : DataW.trod enc Tryz.prog w 0 (fun _ => true) true fuel 34 [v] = some x) :
    ∃ xs, Verts anyB w v xs := by
  rcases Deep.open_slice_pairs Tryz.underlying34 Tryz.underlying63 cellsV rfl rfl cellsI cellsI h with ⟨hc, _⟩ | ⟨a, len, cap, m, n, V0, V1, D0, D1, P0, P1, hc, _, hl, hm, hmm, _, hx⟩
  · obtain rfl : v = .slice none 0 0 := by simpa using hc
    exact ⟨[], ArrK.nil' (by decide)⟩
  · obtain rfl : v = .slice (some a) len cap := by simpa using hc
    simp only [if_true] at hmm
    subst hmm
    have hz : ∀ i, ∃ p : Int × Int, i < m → V0 i = .int .i64 p.1 ∧ V1 i = .int .i64 p.2 := fun i => by
      by_cases hi : i < m
      · obtain ⟨_, _, h2, h3⟩ := hx i hi
        obtain ⟨p, hp, _⟩ := DataW.trod_int Tryz.underlying3 h2
        obtain ⟨q, hq, _⟩ := DataW.trod_int Tryz.underlying3 h3
        exact ⟨(p, q), fun _ => ⟨by simpa using hp, by simpa using hq⟩⟩
      · exact ⟨(0, 0), fun h => absurd h hi⟩
    obtain ⟨z, hz⟩ := Classical.axiomOfChoice hz
    have hlen : ((List.range len).map z).length = len := by simp
    refine ⟨(List.range len).map z, some a, m, by rw [hlen], by rw [hlen]; exact hl, hm, by decide, fun k hk => ?_⟩
    rw [hlen] at hk
    obtain ⟨h0, h1, _⟩ := hx k (by omega)
    have hs := World.cell?_spot (hx 0 (by omega)).1
    obtain ⟨b, off, sp⟩ := a
    obtain rfl : sp = none := by simpa [Addr.add] using hs
    obtain ⟨e0, e1⟩ := hz k (by omega)
    refine ⟨[.int .i64 (z k).1, .int .i64 (z k).2], b, off, by simp [RV], rfl, by simp [Value.oneCell'], rfl, trivial, fun j c hc => ?_⟩
    rw [Addr.add_lit] at h0 h1
    match j, hc with
    | 0, hc => cases hc; rw [Nat.add_zero, ← e0]; exact h0
    | 1, hc => cases hc; rw [← e1, Nat.add_assoc]; exact h1
theorem open_S {w : World} {fuel : Nat} {v : Value} {x : DataW H × List MemPlace} (h : DataW.trod enc Tryz.prog w 0 (fun _ => true) true fuel 22 [v] = some x) :
    ∃ xs, Simps anyB w v xs := by
  rcases Deep.open_slice1 Tryz.underlying22 cellsS h with ⟨hc, _⟩ | ⟨a, len, cap, m, n, V, D, Pl, hc, _, hl, hm, hmm, _, hx⟩
  · obtain rfl : v = .slice none 0 0 := by simpa using hc
    exact ⟨[], Arr.nil'⟩
  · obtain rfl : v = .slice (some a) len cap := by simpa using hc
    simp only [if_true] at hmm
    subst hmm
    have hz : ∀ i, ∃ xs : List (Int × Int), i < m → Verts anyB w (V i) xs := fun i => by
      by_cases hi : i < m
      · obtain ⟨xs, h1⟩ := open_V (hx i hi).2
        exact ⟨xs, fun _ => h1⟩
      · exact ⟨[], fun h => absurd h hi⟩
    obtain ⟨z, hz⟩ := Classical.axiomOfChoice hz
    have hlen : ((List.range len).map z).length = len := by simp
    refine ⟨(List.range len).map z, some a, m, by rw [hlen], by rw [hlen]; exact hl, hm, fun k hk => ?_⟩
    rw [hlen] at hk
    obtain ⟨h0, _⟩ := hx k (by omega)
    have hs := World.cell?_spot (hx 0 (by omega)).1
    obtain ⟨b, off, sp⟩ := a
    obtain rfl : sp = none := by simpa [Addr.add] using hs
    have hv := hz k (by omega)
    refine ⟨V k, b, off, by simpa using hv, ?_, rfl, trivial, by rw [Addr.add_lit] at h0; exact h0⟩
    obtain ⟨a', c', hv', _⟩ := hv
    rw [hv']; rfl
end

section
variable {H : Type} {enc : TypeId × Value → H}

theorem args_kept {W W' : World} (hE : Ext W W') : ∀ {ts : List TypeId} {vs : List Value} {ds : List (DataW H)} {ps : List MemPlace}, (∀ t ∈ ts, Tryz.prog.readableRec t = true ∧ t < Tryz.prog.types.size) → (∀ p ∈ ps, p.block < W.heap.size) →
    DataW.TrodAll enc Tryz.prog W 0 (fun _ => true) true ts vs ds ps → DataW.TrodAll enc Tryz.prog W' 0 (fun b => decide (b < W.heap.size)) true ts vs ds ps
  | [], _, _, _, _, _, h => by
    obtain ⟨rfl, rfl, rfl⟩ := trodAll_nil h
    exact trodAll_mk0
  | t :: ts, _, _, _, ht, hlt, h => by
    obtain ⟨v, vs1, d, ds1, a, b, rfl, rfl, rfl, h1, h2⟩ := trodAll_cons h
    exact trodAll_cons_mk (Below.trod laidOut (ht t (by simp)).1 (ht t (by simp)).2 h1 hE (fun x hx => hlt x (by simp [hx]))) (args_kept hE (fun t' h' => ht t' (by simp [h'])) (fun p hp => hlt p (by simp [hp])) h2)

theorem post_law {f : Func} {s : ChangeSpec} {W W' : World} {args : Array Value} {ds gs : List (DataW H)} {before : List MemPlace} (hW : DataW.Whole enc Tryz.prog f.params.toList s.vars false W args.toList ds gs before) (hvars : s.vars = [])
    (hr : f.resultTypes = #[4]) (hs : s.fn H ds = { results := [.lit (.bool true)], args := ds }) (ht : ∀ t ∈ f.params.toList, Tryz.prog.readableRec t = true ∧ t < Tryz.prog.types.size) (hE : Ext W W') :
    s.post enc Tryz.prog f false true false false W args (.bool true) W' := by
  have hlt := hW.lt
  have hW' := hW
  obtain ⟨p, q, hA, hV, rfl, hfz, hnd⟩ := hW
  rw [hvars] at hV
  obtain ⟨rfl, rfl⟩ := trodVars_none hV
  refine ⟨ds, [], p ++ [], [], p, [], hW', ?_, ?_, ?_, hE.frame _, fun h => by cases h⟩
  · rw [hr, List.append_nil, hs]
    exact trodAll_mk1 (shut_bool Tryz.underlying4 true)
  · rw [List.append_nil, hs]
    exact args_kept hE ht (fun x hx => hlt x (by simp [hx])) hA
  · rw [hvars, List.append_nil, hs]
    rfl
theorem fn_law {f : FuncId} {ds : List Dat} (hF : Fn Tryz.prog f ds (dB true)) {W : World} {vs : List Value} (hl : vs.length = ds.length) (h : ∀ (i : Nat) (d : Dat), ds[i]? = some d → d.rd anyB W (vs.getD i undef)) :
    Calls Tryz.prog f vs.toArray W fun e W' => e = .returned (.bool true) ∧ Ext W W' :=
  (hF.out anyB W vs hl h).mono fun _ _ ⟨_, h1, h2, h3⟩ => by cases (h3 : _ = _); exact ⟨h1, h2⟩
end
end Go.Proofs.YtjbepoofigokjaaGreat
namespace Go.Proofs.YtjbepoofigokjaaGreat
open Go.ChangeShapes Go.WideShapes Go.ChangeAt Go.RowKit
set_option maxRecDepth 100000
section
variable {H : Type} {enc : TypeId × Value → H}
theorem cellsC : Tryz.prog.cellsOf 24 = 1 := by kernel_rfl
theorem cellsSS : Tryz.prog.cellsOf 22 = 1 := by kernel_rfl
theorem open_C' {w : World} {r : Reach} {b0 : Nat} {v : Value} {d : DataW H} {ps : List MemPlace} (hv : Value.okWide Tryz.prog w r b0 24 v) (h : DataW.Trod enc Tryz.prog w 0 (fun _ => true) true 24 v d ps) : ∃ xs, (dS Cpx xs).rd anyB w v := by
  obtain ⟨fuel, h⟩ := h
  obtain ⟨cs, rfl, hcs⟩ := okWide_struct Tryz.underlying24 hv
  rw [cellsC] at hcs
  obtain ⟨u, rfl⟩ := Array.size_eq_one_iff.1 hcs
  obtain ⟨y0, n, hy, hl, h0⟩ := trod_struct1 Tryz.underlying24 h
  have h0' : DataW.trod enc Tryz.prog w 0 (fun _ => true) true n 22 [u] = some y0 := by
    have e : Tryz.prog.cellsOf 22 = 1 := cellsSS
    simpa [Value.cells, e] using h0
  obtain ⟨xs, hx⟩ := open_S h0'
  refine ⟨xs, u, rfl, ?_, hx⟩
  obtain ⟨a, c, hu, _⟩ := hx
  rw [hu]; rfl
end
end Go.Proofs.YtjbepoofigokjaaGreat
