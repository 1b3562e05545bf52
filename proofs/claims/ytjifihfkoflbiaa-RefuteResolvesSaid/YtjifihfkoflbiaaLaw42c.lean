/-
  What the core of a refutation is, in plain words; greedy parts. No program is named here.
-/
import Derived.Test.YtjifihfkoflbiaaLaw42b
import Derived.Test.YtjifihfkoflbiaaRed
namespace Go.Proofs.Ytjifihfkoflbiaa
open Go.RowKit

theorem core_facts {V : Nat} (hV : V ≤ 4096) {l p : List (List Int)} (h : Refut V l p) : List.Sublist (coreI l p) (upI l.length) ∧ refutesI (chosenI l (coreI l p)) p = true ∧ ∀ i, i < (coreI l p).length → refutesI (chosenI l (remI (coreI l p) i)) p = false := by
  have hup : ∀ x ∈ upI l.length, 0 ≤ x ∧ x < l.length := fun x hx => upI_mem hx
  obtain ⟨A', h1, h2, h3, h4⟩ := prune_min (ok := fun ks => refutesI (chosenI l ks) p) (Pr := fun y : Int => 0 ≤ y ∧ y < l.length) (Q := fun _ => True) (fun _ _ _ => trivial) (fun A A' S c hpr _ _ hs ho' => by
      obtain ⟨o3, o4⟩ := refutesI_iff.1 ho'
      have hA : ∀ y ∈ A ++ S, 0 ≤ y ∧ y < (l.length : Int) := fun y hy => hpr y (by rcases List.mem_append.1 hy with hy | hy <;> simp [hy])
      have hA' : ∀ y ∈ A' ++ S, y ∈ A ++ S := fun y hy => by
        rcases List.mem_append.1 hy with hy | hy
        · exact List.mem_append.2 (.inl (hs.subset hy))
        · exact List.mem_append.2 (.inr hy)
      have hw : WL V (chosenI l (A ++ S)) := fun d hd => h.wl d (chosenI_mem hA d hd)
      have hw' : WL V (chosenI l (A' ++ S)) := fun d hd => h.wl d (chosenI_mem (fun y hy => hA y (hA' y hy)) d hd)
      refine refutesI_iff.2 ⟨gapF_mono hV hw' hw h.wp (fun x hx => ?_) o3, o4⟩
      simp only [chosenI, List.mem_map] at hx ⊢
      obtain ⟨y, hy, e⟩ := hx
      exact ⟨y, hA' y hy, e⟩) l.length (upI l.length) [] (upI_length _) (by simpa using hup) trivial (by rw [List.append_nil]; show refutesI (chosenI l (upI l.length)) p = true; rw [chosenI_up]; exact refutesI_iff.2 ⟨h.ok, h.last⟩)
  rw [List.append_nil, List.append_nil] at h2
  have e : coreI l p = A' := h2
  rw [e]
  rw [List.append_nil] at h3
  exact ⟨h1, h3, fun i hi => by have := h4 i hi; rw [List.append_nil] at this; exact this⟩

end Go.Proofs.Ytjifihfkoflbiaa
