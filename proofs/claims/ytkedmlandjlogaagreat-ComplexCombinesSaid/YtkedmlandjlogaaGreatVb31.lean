/-
  Part 31 of the texts that the claims of this seat lean on: walks of the program's functions by contracts over symbolic frames, and plain laws of what they compute. No condition.
-/
import Derived.Test.YtkedmlandjlogaaGreatVb21
import Derived.Test.YtkedmlandjlogaaGreatVb24
set_option linter.unusedVariables false
set_option linter.unusedSimpArgs false
set_option linter.unusedSectionVars false
namespace Go.Proofs.YtkedmlandjlogaaGreat
abbrev CntM := List (List Vx × Int)
def addC (m : CntM) (f : List Vx) : CntM := putM m f ((lookM m f).getD 0 + 1)
def cntM (fs : Cx) : CntM := fs.foldl addC []
theorem lookM_keys {K V : Type} [DecidableEq K] {m : List (K × V)} {x : K} : (lookM m x).isSome = true ↔ x ∈ m.map (·.1) := by
  unfold lookM
  rw [Option.isSome_map, List.find?_isSome, List.mem_map]
  constructor
  · rintro ⟨p, hp, h⟩; exact ⟨p, hp, by simpa using h⟩
  · rintro ⟨p, hp, h⟩; exact ⟨p, hp, by simpa using h⟩
theorem putM_keys {K V : Type} [DecidableEq K] {m : List (K × V)} {x : K} {v : V} (hn : (m.map (·.1)).Nodup) : ((putM m x v).map (·.1)).Nodup ∧ ∀ u, u ∈ (putM m x v).map (·.1) ↔ u = x ∨ u ∈ m.map (·.1) := by
  unfold putM
  split
  · rename_i h
    have e : (m.map fun p => if p.1 = x then (x, v) else p).map (·.1) = m.map (·.1) := by
      rw [List.map_map]
      refine List.map_congr_left fun p _ => ?_
      show (if p.1 = x then (x, v) else p).1 = p.1
      split
      · rename_i h; exact h.symm
      · rfl
    rw [e]
    refine ⟨hn, fun u => ⟨.inr, ?_⟩⟩
    rintro (rfl | hu)
    · exact lookM_keys.1 h
    · exact hu
  · rename_i h
    have hx : x ∉ m.map (·.1) := fun hx => h (lookM_keys.2 hx)
    rw [List.map_append]
    refine ⟨?_, fun u => ?_⟩
    · rw [List.nodup_append]
      refine ⟨hn, by simp, fun a ha b hb => ?_⟩
      have : b = x := by simpa using hb
      subst this
      intro hab
      subst hab
      exact hx ha
    · rw [List.mem_append]
      simp only [List.map_cons, List.map_nil, List.mem_singleton]
      exact or_comm
theorem cntM_keys (fs : Cx) : ((cntM fs).map (·.1)).Nodup ∧ ∀ u, u ∈ (cntM fs).map (·.1) ↔ u ∈ fs := by
  have go : ∀ (fs : Cx) (m : CntM), (m.map (·.1)).Nodup → ((fs.foldl addC m).map (·.1)).Nodup ∧ ∀ u, u ∈ (fs.foldl addC m).map (·.1) ↔ u ∈ fs ∨ u ∈ m.map (·.1) := by
    intro fs
    induction fs with
    | nil => intro m hm; exact ⟨hm, fun u => by simp⟩
    | cons f fs ih =>
      intro m hm
      obtain ⟨h1, h2⟩ := putM_keys (x := f) (v := (lookM m f).getD 0 + 1) hm
      obtain ⟨h3, h4⟩ := ih (addC m f) h1
      refine ⟨h3, fun u => ?_⟩
      show u ∈ (fs.foldl addC (addC m f)).map (·.1) ↔ _
      rw [h4]
      unfold addC
      rw [h2, List.mem_cons]
      constructor
      · rintro (h | h | h) <;> simp [h]
      · rintro ((h | h) | h) <;> simp [h]
  have := go fs [] (by simp)
  exact ⟨this.1, fun u => by rw [cntM, this.2]; simp⟩
theorem cntM_count (fs : Cx) (f : List Vx) : (lookM (cntM fs) f).getD 0 = (fs.count f : Int) := by
  have go : ∀ (fs : Cx) (m : CntM), (lookM (fs.foldl addC m) f).getD 0 = (lookM m f).getD 0 + (fs.count f : Int) := by
    intro fs
    induction fs with
    | nil => intro m; simp
    | cons g fs ih =>
      intro m
      rw [List.foldl_cons, ih]
      unfold addC
      rw [lookM_putM, List.count_cons]
      by_cases h : f = g
      · subst h
        rw [if_pos rfl]
        simp; omega
      · rw [if_neg h]
        have : (g == f) = false := by simpa using Ne.symm h
        simp [this]
  have := go fs []
  rw [cntM, this]
  simp [lookM]
theorem cntM_at (fs : Cx) {j : Nat} (h : j < (cntM fs).length) : (cntM fs)[j].2 = (fs.count (cntM fs)[j].1 : Int) := by
  have := cntM_count fs (cntM fs)[j].1
  rw [lookM_some (cntM_keys fs).1 h] at this
  exact this
def fcsC (l : Cx) (d : Nat) : Cx := (l.map (subsV d)).flatten
theorem fcsC_snoc {l : Cx} {d i : Nat} (h : i < l.length) : fcsC (l.take (i + 1)) d = fcsC (l.take i) d ++ subsV d l[i] := by
  unfold fcsC
  rw [take_snoc' h, List.map_append, List.flatten_append]
  simp
theorem fcsC_mem {l : Cx} {d : Nat} {f : List Vx} : f ∈ fcsC l d ↔ f ∈ allC l d := by
  unfold fcsC
  rw [List.mem_flatten, allC_mem]
  constructor
  · rintro ⟨x, hx, hf⟩
    obtain ⟨s, hs, rfl⟩ := List.mem_map.1 hx
    exact ⟨s, hs, hf⟩
  · rintro ⟨s, hs, hf⟩
    exact ⟨_, List.mem_map_of_mem hs, hf⟩
theorem fcsC_len {l : Cx} {d : Nat} (h : ∀ s ∈ l, s.length ≤ 8) : ∀ n, n ≤ l.length → (fcsC (l.take n) d).length ≤ 256 * n
  | 0, _ => by simp [fcsC]
  | n + 1, hn => by
    rw [fcsC_snoc (by omega), List.length_append]
    have h1 := fcsC_len (d := d) h n (by omega)
    have h2 := Nat.le_trans (subsV_len d l[n]) (Nat.pow_le_pow_right (by decide) (h _ (List.getElem_mem (show n < l.length by omega))) : 2 ^ l[n].length ≤ 2 ^ 8)
    omega
theorem sub_inside {f s : List Vx} (hf : Asc f) (hs : Asc s) : f.Sublist s ↔ insideV f s = true := by
  constructor
  · intro h
    unfold insideV
    rw [List.all_eq_true]
    intro x hx
    simpa using h.subset hx
  · intro h
    have hsub : ∀ x ∈ f, x ∈ s := fun x hx => by
      have := List.all_eq_true.1 h x hx
      simpa using this
    have e : sharedV s f true = f := asc_ext (asc_shared hs) hf fun x => by
      rw [mem_shared]
      constructor
      · intro ⟨_, h⟩; simpa using h
      · intro hx; exact ⟨hsub x hx, by simpa using hx⟩
    rw [← e]; exact shared_sub
theorem subs_nodup {s : List Vx} (h : Asc s) (d : Nat) : (subsV d s).Nodup := List.Pairwise.imp (fun {a b} hab hc => by
  subst hc; rw [cmpL_irr] at hab; omega) (subsV_sorted d s h)
theorem count_le_one : ∀ {l : Cx}, l.Nodup → ∀ f, l.count f ≤ 1
  | [], _, f => by simp
  | x :: l, h, f => by
    rw [List.nodup_cons] at h
    rw [List.count_cons]
    by_cases hx : x = f
    · subst hx
      rw [List.count_eq_zero.2 h.1]; simp
    · have : (x == f) = false := by simpa using hx
      rw [this]
      have := count_le_one h.2 f
      simpa using this
theorem count_subs {s f : List Vx} {d : Nat} (hs : Asc s) : (subsV d s).count f = if f ∈ subsV d s then 1 else 0 := by
  split
  · rename_i h
    have h1 : 0 < (subsV d s).count f := List.count_pos_iff.2 h
    have h2 := count_le_one (subs_nodup hs d) f
    omega
  · rename_i h; exact List.count_eq_zero.2 h
theorem count_fcs : ∀ {l : Cx} {d : Nat} {f : List Vx}, (∀ s ∈ l, Asc s) → Asc f → f.length = d → (fcsC l d).count f = (aroundC l f).length
  | [], d, f, _, _, _ => by simp [fcsC, aroundC]
  | s :: l, d, f, hs, hf, hd => by
    have e : fcsC (s :: l) d = subsV d s ++ fcsC l d := by unfold fcsC; simp
    rw [e, List.count_append, count_subs (hs s (by simp)), count_fcs (fun x hx => hs x (by simp [hx])) hf hd]
    have h1 : f ∈ subsV d s ↔ insideV f s = true := by
      rw [subsV_mem, ← sub_inside hf (hs s (by simp))]
      exact ⟨fun h => h.1, fun h => ⟨h, hd⟩⟩
    unfold aroundC
    by_cases hi : insideV f s = true
    · rw [if_pos (h1.2 hi), List.filter_cons_of_pos (by simpa using hi), List.length_cons]; omega
    · rw [if_neg (fun h => hi (h1.1 h)), List.filter_cons_of_neg (by simpa using hi)]; omega
def bndP (l : Cx) : Cx × Int := if chkC l ≠ 0 then ([], chkC l) else if dimC l < 1 ∨ sizeP l = false then ([], 15) else if (allC l (dimC l).toNat).all (okC l) = true then ((allC l (dimC l).toNat).filter (oneC l), 0) else ([], 15)
theorem max_same {l : Cx} {d : Nat} (h : ∀ s ∈ l, s.length = d) (hd : 0 < d) {zs : Cx} (ha : AscL zs) (hm : ∀ x, x ∈ zs ↔ x ∈ l) : maxC l = zs := by
  refine ascL_ext (maxC_asc l) ha fun x => ?_
  rw [maxC_mem, hm]
  constructor
  · exact fun h => h.1
  · intro hx
    refine ⟨hx, ?_⟩
    unfold topC
    rw [h x hx, decide_eq_true hd, Bool.true_and, Bool.not_eq_true', Bool.eq_false_iff]
    intro hc
    obtain ⟨y, hy, hl, _⟩ := coveredC_iff.1 hc
    rw [h x hx, h y hy] at hl
    omega
theorem pure_len {l : Cx} (h : sizeP l = true) : ∀ s ∈ l, (s.length : Int) = dimC l + 1 := fun s hs => by
  obtain ⟨m1, m2⟩ := most_max l
  have h1 := m1 s hs
  have h3 := most_dim l
  rcases m2 with m2 | ⟨t, ht, m2⟩
  · omega
  · have := sizeP_iff.1 h s hs t ht
    omega
theorem fcs_pure {l : Cx} {d : Nat} (h : ∀ s ∈ l, s.length = d + 1) : (fcsC l d).length = l.length * (d + 1) := by
  induction l with
  | nil => simp [fcsC]
  | cons s l ih =>
    have e : fcsC (s :: l) d = subsV d s ++ fcsC l d := by unfold fcsC; simp
    rw [e, List.length_append, ih (fun x hx => h x (by simp [hx])), subsV_most (h s (by simp)), List.length_cons, Nat.succ_mul]
    omega
end Go.Proofs.YtkedmlandjlogaaGreat
