/- Part 1: walks by contracts, and plain laws. -/
import Derived.Test.YtpiidgcljlalmaaVd1
set_option linter.unusedVariables false
set_option linter.unusedSimpArgs false
set_option linter.unusedSectionVars false
namespace Go.Proofs.Ytpiidgcljlalmaa
open Go.RowKit

section
variable {P : Program} {ops : Array Oper} {hp : List HObj} {md : Region.Mode} {w : World}

end

section
variable {P : Program} {ops : Array Oper} {hp : List HObj} {o : Oper} {fr : List Dat} {d : Dat} {Q : Post} {rest : List Oper}
variable {dst : Option Tmp} {ty : TypeId} {ps : String} {af : Array Edge} {g : Option (Nat × Bool)}
variable {t e : TypeId} {n bytes : Nat} {z : Value} {ag : Bool}
theorem SY.neqB {x y : Operand} {T T2 : TypeId} {p q : Bool} (hx : OpD fr x (dB p)) (hy : OpD fr y (dB q)) (hq : ∀ (x y : Operand) (p q : Bool) w, (do eqGuard .neq T x y (.bool p) (.bool q); Go.binOp .neq T (.bool p) (.bool q)).run P w = .ok (.bool (p != q)) w) : SY P ops hp { dst := dst, op := .binOp .neq T x y T2, type := ty, pos := ps, after := af, guard := g } fr (dB (p != q)) := SY.val fun {I w a} ho => by
  have h1 : a.eval x = .bool p := hx.get (by simp [Op.operands]) ho
  have h2 : a.eval y = .bool q := hy.get (by simp [Op.operands]) ho
  refine ⟨.bool (p != q), ?_, rfl⟩
  have := hq x y p q w
  unfold execOp
  simp only [h1, h2]
  rw [Sem.run_bind, this]
  simp
end

end Go.Proofs.Ytpiidgcljlalmaa
namespace Go.Proofs.Ytpiidgcljlalmaa
open Go.RowKit
section
variable {P : Program} {ops : Array Oper} {hp : List HObj} {fr : List Dat} {d : Dat} {Q : Post} {rest : List Oper}
variable {dst : Option Tmp} {ty : TypeId} {ps : String} {af : Array Edge} {g : Option (Nat × Bool)} {T T1 T2 : TypeId} {b off k n : Nat} {ds ds' : List Dat}
theorem WC.freezeS {c : Code} {t : Nat} (hp0 : fr[t]? = some (dX (.pointer (some ⟨b, 0, none⟩)))) (hn : 0 < n) (hl : ds.length = n) (h : WC P Q c (fr.set t (dP n true (dAgg ds))) hp) : WC P Q c fr (hStr b T ds :: hp) := by
  refine WC.of fun P0 B w0 w a hh hf => ?_
  obtain ⟨cs, c1, c2, c3, c4⟩ := hh.ok (hStr b T ds) (by simp)
  have hown := hh.own (hStr b T ds) (by simp) b rfl
  refine h.on hh.drop ⟨hf.defers, by rw [hf.size, List.length_set], fun t' d' hd' => ?_⟩
  by_cases htt : t = t'
  · subst htt
    rw [List.getElem?_set] at hd'
    simp only [if_true] at hd'
    split at hd'
    · cases hd'
      have hv : a.tmps.getD t undef = .pointer (some ⟨b, 0, none⟩) := hf.rd t _ hp0
      rw [hv]
      refine ⟨b, 0, .agg cs.toArray, rfl, ⟨⟨.inr hown.1, fun o' ho' hk => (List.pairwise_cons.1 hh.apart).1 o' ho' b rfl hk⟩, cs, by omega, hn, c3, fun j c hc => ?_, rfl⟩, cs, rfl, c2, c3, fun k c d hc hd => d.weak (c4 k c d hc hd) Imm.sub⟩
      simp [World.cell?, c1, hc]
    · cases hd'
  · rw [List.getElem?_set_ne htt] at hd'
    exact d'.weak (hf.rd t' d' hd') Imm.sub
end
end Go.Proofs.Ytpiidgcljlalmaa
namespace Go.Proofs.Ytpiidgcljlalmaa
open Go.RowKit
set_option maxRecDepth 100000
theorem nqBB : ∀ (x y : Operand) (p q : Bool) w, (do eqGuard .neq 4 x y (.bool p) (.bool q); Go.binOp .neq 4 (.bool p) (.bool q)).run Try.prog w = .ok (.bool (p != q)) w := by
  intro x y p q w; cases p <;> cases q <;> go_simp
end Go.Proofs.Ytpiidgcljlalmaa
namespace Go.Proofs.Ytpiidgcljlalmaa
open Go.RowKit
theorem up_len (n : Nat) : (upI n).length = n := by simp [upI]
theorem unsB_mono {V : Nat} {l l' : List (List Int)} (h : ∀ c ∈ l, c ∈ l') (k : unsB V l = true) : unsB V l' = true := by
  unfold unsB at k ⊢
  rw [List.isEmpty_iff] at k ⊢
  refine List.eq_nil_iff_forall_not_mem.2 fun m hm => ?_
  obtain ⟨h1, h2, h3⟩ := model_mem.1 hm
  have : m ∈ allF V l [] := model_mem.2 ⟨h1, h2, fun c hc => h3 c (h c hc)⟩
  rw [k] at this
  cases this
theorem core43_facts {V : Nat} {l : List (List Int)} (h : unsB V l = true) : List.Sublist (core43 V l) (upI l.length) ∧ unsB V (chosenI l (core43 V l)) = true ∧ ∀ i, i < (core43 V l).length → unsB V (chosenI l (remI (core43 V l) i)) = false := by
  obtain ⟨A', h1, h2, h3, h4⟩ := prune_min (ok := fun ks => unsB V (chosenI l ks)) (Pr := fun _ : Int => True) (Q := fun _ => True) (fun _ _ _ => trivial) (fun A A' S c _ _ _ hs ho => unsB_mono (fun x hx => by
      simp only [chosenI, List.mem_map] at hx ⊢
      obtain ⟨y, hy, e⟩ := hx
      refine ⟨y, ?_, e⟩
      rcases List.mem_append.1 hy with hy | hy
      · exact List.mem_append.2 (.inl (hs.subset hy))
      · exact List.mem_append.2 (.inr hy)) ho) l.length (upI l.length) [] (up_len _) (fun _ _ => trivial) trivial (by
      rw [List.append_nil]
      show unsB V (chosenI l (upI l.length)) = true
      rw [cho_up]; exact h)
  rw [List.append_nil, List.append_nil] at h2
  have e : core43 V l = A' := h2
  rw [e]
  rw [List.append_nil] at h3
  exact ⟨h1, h3, fun i hi => by have := h4 i hi; rw [List.append_nil] at this; exact this⟩
end Go.Proofs.Ytpiidgcljlalmaa
