/- Part 22: walks by contracts, and plain laws. -/
import Derived.Test.YtpiidgcljlalmaaVa21
set_option linter.unusedVariables false
set_option linter.unusedSimpArgs false
set_option linter.unusedSectionVars false
namespace Go.Proofs.Ytpiidgcljlalmaa
open Go.RowKit

inductive Der (l : List (List Int)) (a : Int → Prop) : Int → Prop
  | base {x : Int} : a x → Der l a x
  | step {c : List Int} {x : Int} : c ∈ l → x ∈ c → (∀ y ∈ c, y ≠ x → Der l a (-y)) → Der l a x
def Conf (l : List (List Int)) (a : Int → Prop) : Prop := ∃ c ∈ l, ∀ y ∈ c, Der l a (-y)

structure WfC (V : Nat) (c : List Int) : Prop where
  rng : ∀ x ∈ c, x ≠ 0 ∧ x.natAbs ≤ V
  inc : c.Pairwise fun x y => x.natAbs < y.natAbs
abbrev WfL (V : Nat) (l : List (List Int)) : Prop := ∀ c ∈ l, WfC V c

theorem goodI_iff {V : Nat} {x : Int} : goodI (V : Int) x = true ↔ x ≠ 0 ∧ x.natAbs ≤ V := by
  unfold goodI
  rw [decide_eq_true_eq]
  omega
theorem varI_abs {V : Nat} (hV : V ≤ 4096) {x : Int} (h : x.natAbs ≤ V) : varI x = x.natAbs := by
  unfold varI wrap64
  split <;> omega

theorem clauseI_some {V : Nat} (hV : V ≤ 4096) : ∀ {c : List Int} {p : Int}, p.natAbs ≤ V → (clauseI (V : Int) (some p) c = 0 ↔ WfC V c ∧ ∀ x ∈ c, p.natAbs < x.natAbs)
  | [], p, _ => by
    simp only [clauseI, true_iff]
    exact ⟨⟨fun x hx => (by cases hx), List.Pairwise.nil⟩, fun x hx => (by cases hx)⟩
  | y :: c, p, hp => by
    simp only [clauseI]
    by_cases hg : goodI (V : Int) y = true
    · have hy := goodI_iff.1 hg
      rw [if_pos hg, varI_abs hV hy.2, varI_abs hV hp]
      by_cases hle : ((y.natAbs : Nat) : Int) ≤ (p.natAbs : Nat)
      · rw [if_pos hle]
        constructor
        · intro h; omega
        · rintro ⟨_, h⟩; have := h y (by simp); omega
      · rw [if_neg hle, clauseI_some hV hy.2]
        constructor
        · rintro ⟨h1, h2⟩
          refine ⟨⟨fun x hx => ?_, List.pairwise_cons.2 ⟨h2, h1.inc⟩⟩, fun x hx => ?_⟩
          · rcases List.mem_cons.1 hx with rfl | hx
            · exact hy
            · exact h1.rng x hx
          · rcases List.mem_cons.1 hx with rfl | hx
            · omega
            · have := h2 x hx; omega
        · rintro ⟨h1, _⟩
          have h3 := List.pairwise_cons.1 h1.inc
          exact ⟨⟨fun x hx => h1.rng x (by simp [hx]), h3.2⟩, h3.1⟩
    · rw [if_neg hg]
      constructor
      · intro h; omega
      · rintro ⟨h1, _⟩; exact absurd (goodI_iff.2 (h1.rng y (by simp))) hg

theorem clauseI_iff {V : Nat} (hV : V ≤ 4096) : ∀ {c : List Int}, clauseI (V : Int) none c = 0 ↔ WfC V c
  | [] => by
    simp only [clauseI, true_iff]
    exact ⟨fun x hx => (by cases hx), List.Pairwise.nil⟩
  | y :: c => by
    simp only [clauseI]
    by_cases hg : goodI (V : Int) y = true
    · have hy := goodI_iff.1 hg
      rw [if_pos hg, clauseI_some hV hy.2]
      constructor
      · rintro ⟨h1, h2⟩
        refine ⟨fun x hx => ?_, List.pairwise_cons.2 ⟨h2, h1.inc⟩⟩
        rcases List.mem_cons.1 hx with rfl | hx
        · exact hy
        · exact h1.rng x hx
      · intro h1
        have h3 := List.pairwise_cons.1 h1.inc
        exact ⟨⟨fun x hx => h1.rng x (by simp [hx]), h3.2⟩, h3.1⟩
    · rw [if_neg hg]
      constructor
      · intro h; omega
      · intro h1; exact absurd (goodI_iff.2 (h1.rng y (by simp))) hg
theorem clausesI_iff {V : Nat} (hV : V ≤ 4096) : ∀ {l : List (List Int)}, clausesI (V : Int) l = 0 ↔ WfL V l
  | [] => by simp [clausesI, WfL]
  | c :: l => by
    simp only [clausesI]
    by_cases hc : clauseI (V : Int) none c = 0
    · rw [if_neg (by simp [hc]), clausesI_iff hV]
      constructor
      · intro h d hd
        rcases List.mem_cons.1 hd with rfl | hd
        · exact (clauseI_iff hV).1 hc
        · exact h d hd
      · intro h d hd; exact h d (by simp [hd])
    · rw [if_pos hc]
      constructor
      · intro h; exact absurd h hc
      · intro h; exact absurd ((clauseI_iff hV).2 (h c (by simp))) hc

theorem WfL.inR {V : Nat} {l : List (List Int)} (h : WfL V l) : InR (V + 1) l := fun c hc x hx => by have := ((h c hc).rng x hx).2; omega
theorem WfC.inj {V : Nat} {c : List Int} (h : WfC V c) : ∀ x ∈ c, -x ∉ c := by
  intro x hx hn
  have h0 := (h.rng x hx).1
  have := List.pairwise_iff_getElem.1 h.inc
  obtain ⟨i, hi, rfl⟩ := List.getElem_of_mem hx
  obtain ⟨j, hj, e⟩ := List.getElem_of_mem hn
  rcases Nat.lt_trichotomy i j with hij | rfl | hij
  · have := this i j hi hj hij; omega
  · omega
  · have := this j i hj hi hij; omega

theorem Der.mono {l l' : List (List Int)} {a a' : Int → Prop} (hl : ∀ c ∈ l, c ∈ l') (ha : ∀ x, a x → a' x) {x : Int} (h : Der l a x) : Der l' a' x := by
  induction h with
  | base h => exact .base (ha _ h)
  | step hc hx _ ih => exact .step (hl _ hc) hx ih
theorem Conf.mono {l l' : List (List Int)} {a a' : Int → Prop} (hl : ∀ c ∈ l, c ∈ l') (ha : ∀ x, a x → a' x) (h : Conf l a) : Conf l' a' :=
  let ⟨c, hc, h⟩ := h; ⟨c, hl c hc, fun y hy => (h y hy).mono hl ha⟩

theorem stepI_closed {V : Nat} (hV : V ≤ 4096) {l : List (List Int)} (hl : WfL V l) {b : List Int} (hcons : ∀ x ∈ b, -x ∉ b) {a : Int → Prop} (hab : ∀ x, a x → x ∈ b) (hn : stepI 0 l b = none) {x : Int} (h : Der l a x) : x ∈ b := by
  induction h with
  | base h => exact hab _ h
  | step hc hx hy ih =>
    rename_i c x
    have hw := hl c hc
    rcases stepI_none hn c hc with ht | ht
    · obtain ⟨z, hz, hzb⟩ := trueI_iff.1 ht
      by_cases hzx : z = x
      · exact hzx ▸ hzb
      · exact absurd (ih z hz hzx) (hcons z hzb)
    · exfalso
      -- two open literals at different places
      have hall : ∀ y ∈ withoutI c b, y = x := fun y hy => by
        obtain ⟨hyc, hyo⟩ := withoutI_mem.1 hy
        by_cases e : y = x
        · exact e
        · have := (hw.rng y hyc).2
          rw [show wrap64 (-y) = -y from by unfold wrap64; omega] at hyo
          exact absurd (ih y hyc e) hyo
      have hsub : ∀ (c : List Int), List.Sublist (withoutI c b) c := by
        intro c
        induction c with
        | nil => simp [withoutI]
        | cons y c ihc => simp only [withoutI]; split; exact ihc.cons _; exact ihc.cons_cons _
      have hpw := hw.inc.sublist (hsub c)
      match hw0 : withoutI c b, ht, hall, hpw with
      | [], ht, _, _ => simp at ht
      | [_], ht, _, _ => simp at ht
      | y :: z :: r, _, hall, hpw =>
        have e1 := hall y (by simp)
        have e2 := hall z (by simp)
        have := (List.pairwise_cons.1 hpw).1 z (by simp)
        rw [e1, e2] at this; omega

theorem unitsI_conf_end {V : Nat} (hV : V ≤ 4096) {l : List (List Int)} (hl : WfL V l) {a : Int → Prop} {b : List Int} (hr : ∀ x ∈ b, x ≠ 0 ∧ x.natAbs ≤ V) (hcons : ∀ x ∈ b, -x ∉ b) (hab : ∀ x, a x → x ∈ b) (hba : ∀ x ∈ b, Der l a x) (hs : ∀ i x, stepI 0 l b ≠ some (i, [x])) : 0 ≤ (unitsI l b).2 ↔ Conf l a := by
  rw [unitsI_end hs]
  cases he : stepI 0 l b with
  | none =>
    simp only [stepIx]
    constructor
    · intro h; omega
    · rintro ⟨c, hc, h⟩
      exfalso
      have hin : ∀ y ∈ c, -y ∈ b := fun y hy => stepI_closed hV hl hcons hab he (h y hy)
      rcases stepI_none he c hc with ht | ht
      · obtain ⟨z, hz, hzb⟩ := trueI_iff.1 ht
        exact hcons z hzb (hin z hz)
      · cases hw0 : withoutI c b with
        | nil => rw [hw0] at ht; simp at ht
        | cons y r =>
          have hy : y ∈ withoutI c b := by rw [hw0]; simp
          obtain ⟨hyc, hyo⟩ := withoutI_mem.1 hy
          have := ((hl c hc).rng y hyc).2
          rw [show wrap64 (-y) = -y from by unfold wrap64; omega] at hyo
          exact hyo (hin y hyc)
  | some r =>
    obtain ⟨i, o⟩ := r
    simp only [stepIx]
    obtain ⟨_, _, c, hc, ht, ho, hlen⟩ := stepI_some he
    match o, ho, hlen, hs, he with
    | [x], _, _, hs, he => exact absurd he (hs i x)
    | x :: y :: r, _, hlen, _, _ => simp at hlen; omega
    | [], ho, _, _, _ =>
      refine iff_of_true (by omega) ⟨c, hc, fun y hy => ?_⟩
      by_cases hyo : -y ∈ b
      · exact hba _ hyo
      · exfalso
        have := ((hl c hc).rng y hy).2
        have : y ∈ withoutI c b := withoutI_mem.2 ⟨hy, by rw [show wrap64 (-y) = -y from by unfold wrap64; omega]; exact hyo⟩
        rw [← ho] at this; cases this

theorem unitsI_conf {V : Nat} (hV : V ≤ 4096) {l : List (List Int)} (hl : WfL V l) {a : Int → Prop} : ∀ (n : Nat) (b : List Int), openI l b ≤ n → (∀ x ∈ b, x ≠ 0 ∧ x.natAbs ≤ V) → (∀ x ∈ b, -x ∉ b) → (∀ x, a x → x ∈ b) → (∀ x ∈ b, Der l a x) → (0 ≤ (unitsI l b).2 ↔ Conf l a) := by
  intro n
  induction n with
  | zero =>
    intro b hn hr hcons hab hba
    exact unitsI_conf_end hV hl hr hcons hab hba (fun i x hs => by have := openI_lt hs; omega)
  | succ n ih =>
    intro b hn hr hcons hab hba
    by_cases hs : ∃ i x, stepI 0 l b = some (i, [x])
    · obtain ⟨i, x, hs⟩ := hs
      rw [unitsI_more hs]
      have hlt := openI_lt hs
      obtain ⟨_, _, c, hc, ht, ho, _⟩ := stepI_some hs
      have hw := hl c hc
      have hxw : x ∈ withoutI c b := by rw [← ho]; simp
      obtain ⟨hxc, hxo⟩ := withoutI_mem.1 hxw
      have hxr := hw.rng x hxc
      rw [show wrap64 (-x) = -x from by unfold wrap64; omega] at hxo
      have hxb : x ∉ b := fun hc => by rw [trueI_iff.2 ⟨x, hxc, hc⟩] at ht; cases ht
      refine ih (b ++ [x]) (by omega) ?_ ?_ (fun y hy => by simp [hab y hy]) ?_
      · intro y hy
        rcases List.mem_append.1 hy with hy | hy
        · exact hr y hy
        · rw [List.mem_singleton.1 hy]; exact hxr
      · intro y hy hny
        rcases List.mem_append.1 hy with hy | hy <;> rcases List.mem_append.1 hny with hny | hny
        · exact hcons y hy hny
        · have := List.mem_singleton.1 hny
          have e : -x = y := by omega
          exact hxo (e ▸ hy)
        · rw [List.mem_singleton.1 hy] at hny; exact hxo hny
        · have e1 := List.mem_singleton.1 hy
          have e2 := List.mem_singleton.1 hny
          omega
      · intro y hy
        rcases List.mem_append.1 hy with hy | hy
        · exact hba y hy
        · rw [List.mem_singleton.1 hy]
          refine .step hc hxc fun z hz hzx => ?_
          by_cases hzo : -z ∈ b
          · exact hba _ hzo
          · exfalso
            have hzr := (hw.rng z hz).2
            have : z ∈ withoutI c b := withoutI_mem.2 ⟨hz, by rw [show wrap64 (-z) = -z from by unfold wrap64; omega]; exact hzo⟩
            rw [← ho] at this
            exact hzx (List.mem_singleton.1 this)
    · exact unitsI_conf_end hV hl hr hcons hab hba (fun i x h => hs ⟨i, x, h⟩)

abbrev negs (c : List Int) : Int → Prop := fun x => -x ∈ c

theorem followsI_iff {V : Nat} (hV : V ≤ 4096) {l : List (List Int)} (hl : WfL V l) {c : List Int} (hc : WfC V c) : followsI l c = true ↔ Conf l (negs c) := by
  have hmem : ∀ x, x ∈ negI c ↔ -x ∈ c := by
    intro x
    unfold negI
    rw [List.mem_map]
    constructor
    · rintro ⟨y, hy, rfl⟩
      have := (hc.rng y hy).2
      rw [show wrap64 (-y) = -y from by unfold wrap64; omega, Int.neg_neg]; exact hy
    · intro h
      have := (hc.rng _ h).2
      exact ⟨-x, h, by unfold wrap64; omega⟩
  unfold followsI
  rw [decide_eq_true_eq]
  refine unitsI_conf hV hl _ (negI c) (Nat.le_refl _) (fun x hx => ?_) (fun x hx hn => ?_) (fun x hx => (hmem x).2 hx) (fun x hx => .base ((hmem x).1 hx))
  · have := hc.rng _ ((hmem x).1 hx); omega
  · have h1 := (hmem x).1 hx
    have h2 := (hmem (-x)).1 hn
    exact hc.inj _ h1 h2

theorem valI_neg {vals : List Int} {x : Int} (h : x ≠ 0) : valI vals (-x) = -valI vals x := by
  unfold valI
  by_cases hx : x < 0
  · rw [if_pos hx, if_neg (by omega), Int.neg_neg]
  · rw [if_neg hx, if_pos (by omega), Int.neg_neg]
theorem valI_set {vals : List Int} {x y : Int} (hx : x ≠ 0) (hy : y ≠ 0) (h : x.natAbs < vals.length) : valI (setI vals x) y = if y = x then 1 else if y = -x then -1 else valI vals y := by
  unfold valI setI
  simp only [List.getD_eq_getElem?_getD]
  by_cases h1 : x < 0 <;> by_cases h2 : y < 0 <;> simp only [h1, h2, if_true, if_false, List.getElem?_set] <;>
    (split <;> (try split) <;> (try split) <;> (try split) <;> first | omega | simp | rfl)

theorem unitI_spec {vals : List Int} {c : List Int} : ∀ {o : Int}, (∀ x ∈ c, x ≠ 0) →
    ((unitI vals o c = (o, decide (o = 0)) ∧ ∀ y ∈ c, valI vals y < 0) ∨
     (∃ x ∈ c, o = 0 ∧ unitI vals o c = (x, false) ∧ valI vals x = 0 ∧ ∀ y ∈ c, y ≠ x → valI vals y < 0) ∨
     (unitI vals o c = (0, false) ∧ ((∃ z ∈ c, 0 < valI vals z) ∨ (o ≠ 0 ∧ ∃ z ∈ c, valI vals z = 0) ∨ ∃ i j : Nat, ∃ (hi : i < c.length) (hj : j < c.length), i < j ∧ valI vals c[i] = 0 ∧ valI vals c[j] = 0))) := by
  induction c with
  | nil => intro o _; exact .inl ⟨rfl, fun y hy => by cases hy⟩
  | cons x c ih =>
    intro o hnz
    have hx0 := hnz x (by simp)
    have hnz' : ∀ y ∈ c, y ≠ 0 := fun y hy => hnz y (by simp [hy])
    simp only [unitI]
    by_cases h1 : 0 < valI vals x
    · rw [if_pos (.inl h1)]
      exact .inr (.inr ⟨rfl, .inl ⟨x, by simp, h1⟩⟩)
    · by_cases h2 : valI vals x = 0
      · by_cases h3 : o = 0
        · subst h3
          rw [if_neg (by simp [h1]), if_pos h2]
          rcases @ih x hnz' with ⟨e, h⟩ | ⟨y, hy, e, _⟩ | ⟨e, h⟩
          · refine .inr (.inl ⟨x, by simp, rfl, by rw [e, decide_eq_false hx0], h2, fun y hy hne => ?_⟩)
            rcases List.mem_cons.1 hy with rfl | hy
            · exact absurd rfl hne
            · exact h y hy
          · exact absurd e hx0
          · refine .inr (.inr ⟨e, ?_⟩)
            rcases h with ⟨z, hz, h⟩ | ⟨_, z, hz, h⟩ | ⟨i, j, hi, hj, hij, a, b⟩
            · exact .inl ⟨z, by simp [hz], h⟩
            · obtain ⟨j, hj, rfl⟩ := List.getElem_of_mem hz
              exact .inr (.inr ⟨0, j + 1, by simp, by simpa using hj, by omega, by simpa using h2, by simpa using h⟩)
            · exact .inr (.inr ⟨i + 1, j + 1, by simpa using hi, by simpa using hj, by omega, by simpa using a, by simpa using b⟩)
        · rw [if_pos (.inr ⟨h2, h3⟩)]
          exact .inr (.inr ⟨rfl, .inr (.inl ⟨h3, x, by simp, h2⟩)⟩)
      · rw [if_neg (by simp [h1, h2]), if_neg h2]
        have hlt : valI vals x < 0 := by omega
        rcases @ih o hnz' with ⟨e, h⟩ | ⟨y, hy, e0, e, h, h'⟩ | ⟨e, h⟩
        · refine .inl ⟨e, fun y hy => ?_⟩
          rcases List.mem_cons.1 hy with rfl | hy
          · exact hlt
          · exact h y hy
        · refine .inr (.inl ⟨y, by simp [hy], e0, e, h, fun z hz hne => ?_⟩)
          rcases List.mem_cons.1 hz with rfl | hz
          · exact hlt
          · exact h' z hz hne
        · refine .inr (.inr ⟨e, ?_⟩)
          rcases h with ⟨z, hz, h⟩ | ⟨h0, z, hz, h⟩ | ⟨i, j, hi, hj, hij, a, b⟩
          · exact .inl ⟨z, by simp [hz], h⟩
          · exact .inr (.inl ⟨h0, z, by simp [hz], h⟩)
          · exact .inr (.inr ⟨i + 1, j + 1, by simpa using hi, by simpa using hj, by omega, by simpa using a, by simpa using b⟩)

structure Sound (V : Nat) (l : List (List Int)) (a : Int → Prop) (vals : List Int) : Prop where
  len : vals.length = V + 1
  der : ∀ x : Int, x ≠ 0 → 0 < valI vals x → Der l a x
  all : ∀ x, a x → 0 < valI vals x

theorem Sound.neg {V : Nat} {l : List (List Int)} {a : Int → Prop} {vals : List Int} (h : Sound V l a vals) {y : Int} (hy : y ≠ 0) (hv : valI vals y < 0) : Der l a (-y) :=
  h.der (-y) (by omega) (by rw [valI_neg hy]; omega)

theorem passF_sound {V : Nat} {l : List (List Int)} (hl : WfL V l) {a : Int → Prop} : ∀ (r : List (List Int)) (vals : List Int) (ch : Bool), (∀ c ∈ r, c ∈ l) → Sound V l a vals →
    (passF r vals ch = none → Conf l a) ∧ (∀ v ch', passF r vals ch = some (v, ch') → Sound V l a v ∧ (ch' = false → ch = false ∧ v = vals ∧ ∀ c ∈ r, unitI vals 0 c = (0, false)))
  | [], vals, ch, _, hs => by
    simp only [passF]
    refine ⟨fun h => (by cases h), fun v ch' h => ?_⟩
    simp only [Option.some.injEq, Prod.mk.injEq] at h
    obtain ⟨rfl, rfl⟩ := h
    exact ⟨hs, fun h => ⟨h, rfl, fun c hc => by cases hc⟩⟩
  | c :: r, vals, ch, hr, hs => by
    have hcl := hr c (by simp)
    have hw := hl c hcl
    have hr' : ∀ d ∈ r, d ∈ l := fun d hd => hr d (by simp [hd])
    simp only [passF]
    rcases @unitI_spec vals c 0 (fun x hx => (hw.rng x hx).1) with ⟨e, h⟩ | ⟨x, hx, _, e, h, h'⟩ | ⟨e, h⟩
    · rw [e]
      simp only [decide_true, if_true]
      exact ⟨fun _ => ⟨c, hcl, fun y hy => hs.neg (hw.rng y hy).1 (h y hy)⟩, fun v ch' h => by cases h⟩
    · have hx0 := (hw.rng x hx)
      rw [e]
      simp only [Bool.false_eq_true, if_false, ne_eq, hx0.1, not_false_eq_true, if_true]
      have hd : Der l a x := .step hcl hx fun y hy hne => hs.neg (hw.rng y hy).1 (h' y hy hne)
      have hs' : Sound V l a (setI vals x) := by
        refine ⟨by rw [setI_length]; exact hs.len, fun y hy hv => ?_, fun y hy => ?_⟩
        · rw [valI_set hx0.1 hy (by rw [hs.len]; omega)] at hv
          split at hv
          · rename_i e; rw [e]; exact hd
          · split at hv
            · omega
            · exact hs.der y hy hv
        · have hv := hs.all y hy
          have hy0 : y ≠ 0 ∨ y = 0 := by omega
          rcases hy0 with hy0 | rfl
          · rw [valI_set hx0.1 hy0 (by rw [hs.len]; omega)]
            split
            · omega
            · split
              · rename_i e; rw [e, valI_neg hx0.1] at hv; omega
              · exact hv
          · have h0 := hx0.1
            have : valI (setI vals x) 0 = valI vals 0 := by
              unfold valI setI
              simp only [List.getD_eq_getElem?_getD, Int.lt_irrefl, if_false]
              split
              · rw [List.getElem?_set_ne (by omega)]
              · rw [List.getElem?_set_ne (by omega)]
            rw [this]; exact hv
      obtain ⟨k1, k2⟩ := passF_sound hl r (setI vals x) true hr' hs'
      exact ⟨k1, fun v ch' h => ⟨(k2 v ch' h).1, fun hf => absurd ((k2 v ch' h).2 hf).1 (by simp)⟩⟩
    · rw [e]
      simp only [Bool.false_eq_true, if_false, ne_eq, not_true_eq_false]
      obtain ⟨k1, k2⟩ := passF_sound hl r vals ch hr' hs
      refine ⟨k1, fun v ch' h => ⟨(k2 v ch' h).1, fun hf => ?_⟩⟩
      obtain ⟨g1, g2, g3⟩ := (k2 v ch' h).2 hf
      refine ⟨g1, g2, fun d hd => ?_⟩
      rcases List.mem_cons.1 hd with rfl | hd
      · exact e
      · exact g3 d hd

theorem pass_closed {V : Nat} {l : List (List Int)} (hl : WfL V l) {a : Int → Prop} {vals : List Int} (hs : Sound V l a vals) (hq : ∀ c ∈ l, unitI vals 0 c = (0, false)) : ¬ Conf l a := by
  have hno : ∀ c ∈ l, ∀ x : Int, ∃ z ∈ c, z ≠ x ∧ 0 ≤ valI vals z ∨ (z = x ∧ z ∈ c ∧ 0 < valI vals z) := by
    intro c hc x
    have hw := hl c hc
    rcases @unitI_spec vals c 0 (fun x hx => (hw.rng x hx).1) with ⟨e, h⟩ | ⟨y, hy, _, e, h, h'⟩ | ⟨e, h⟩
    · rw [hq c hc] at e; simp at e
    · rw [hq c hc] at e; simp at e; exact absurd e.symm (hw.rng y hy).1
    · rcases h with ⟨z, hz, h⟩ | ⟨h0, _⟩ | ⟨i, j, hi, hj, hij, h1, h2⟩
      · by_cases e : z = x
        · exact ⟨z, hz, .inr ⟨e, hz, h⟩⟩
        · exact ⟨z, hz, .inl ⟨e, by omega⟩⟩
      · exact absurd rfl h0
      · have hlt := List.pairwise_iff_getElem.1 hw.inc i j hi hj hij
        by_cases e : c[i] = x
        · exact ⟨c[j], List.getElem_mem hj, .inl ⟨fun e' => by rw [e, e'] at hlt; omega, by omega⟩⟩
        · exact ⟨c[i], List.getElem_mem hi, .inl ⟨e, by omega⟩⟩
  have hder : ∀ x, Der l a x → 0 < valI vals x := by
    intro x h
    induction h with
    | base h => exact hs.all _ h
    | step hc hx hy ih =>
      rename_i c x
      obtain ⟨z, hz, h⟩ := hno c hc x
      rcases h with ⟨hne, h⟩ | ⟨rfl, _, h⟩
      · have := ih z hz hne
        rw [valI_neg ((hl c hc).rng z hz).1] at this; omega
      · exact h
  rintro ⟨c, hc, h⟩
  have hw := hl c hc
  obtain ⟨z, hz, h'⟩ := hno c hc 0
  have h1 := hder _ (h z hz)
  rw [valI_neg (hw.rng z hz).1] at h1
  rcases h' with ⟨_, h'⟩ | ⟨_, _, h'⟩ <;> omega

theorem conflictI_iff_one {V : Nat} {l : List (List Int)} (hl : WfL V l) {a : Int → Prop} {vals : List Int} (hs : Sound V l a vals) (ih : ∀ v : List Int, v.count 0 < vals.count 0 → Sound V l a v → (conflictI l v = true ↔ Conf l a)) : conflictI l vals = true ↔ Conf l a := by
  have hin : InR vals.length l := by rw [hs.len]; exact WfL.inR hl
  rw [conflictI_step hin]
  obtain ⟨k1, k2⟩ := passF_sound hl l vals false (fun c hc => hc) hs
  cases hp : passF l vals false with
  | none => simp only [true_iff]; exact k1 hp
  | some r =>
    obtain ⟨v, ch⟩ := r
    obtain ⟨g1, g2⟩ := k2 v ch hp
    cases ch with
    | true =>
      obtain ⟨_, _, e3, _⟩ := passF_some hin hp
      exact ih v ((e3 rfl).resolve_left (by simp)) g1
    | false =>
      obtain ⟨_, rfl, h⟩ := g2 rfl
      simp only [Bool.false_eq_true, false_iff]
      exact pass_closed hl hs h

theorem conflictI_iff {V : Nat} {l : List (List Int)} (hl : WfL V l) {a : Int → Prop} : ∀ (n : Nat) (vals : List Int), vals.count 0 ≤ n → Sound V l a vals → (conflictI l vals = true ↔ Conf l a) := by
  intro n
  induction n with
  | zero =>
    intro vals hn hs
    exact conflictI_iff_one hl hs (fun v hlt => by omega)
  | succ n ih =>
    intro vals hn hs
    exact conflictI_iff_one hl hs (fun v hlt hv => ih v (by omega) hv)

theorem startI_val {V : Nat} : ∀ (c : List Int) (vals : List Int), WfC V c → vals.length = V + 1 → ∀ x : Int, x ≠ 0 → x.natAbs ≤ V → valI (c.foldl (fun v x => setI v (-x)) vals) x = if -x ∈ c then 1 else if x ∈ c then -1 else valI vals x
  | [], vals, _, _, x, _, _ => by simp
  | y :: c, vals, hw, hlen, x, hx, hxV => by
    have hy := hw.rng y (by simp)
    have h3 := List.pairwise_cons.1 hw.inc
    have hw' : WfC V c := ⟨fun x hx => hw.rng x (by simp [hx]), h3.2⟩
    rw [List.foldl_cons, startI_val c _ hw' (by rw [setI_length]; exact hlen) x hx hxV, valI_set (by omega) hx (by rw [hlen]; omega)]
    simp only [List.mem_cons, Int.neg_neg]
    by_cases h1 : -x ∈ c
    · simp [h1]
    · by_cases h2 : x ∈ c
      · have hne : -x ≠ y := fun e => by have := h3.1 x h2; omega
        simp [h1, h2, hne]
      · simp only [h1, h2, or_false, if_false]
        by_cases e1 : x = -y
        · have e2 : -x = y := by omega
          rw [if_pos e1, if_pos e2]
        · have e2 : ¬ -x = y := by omega
          simp only [if_neg e1, if_neg e2]
theorem valI_zeros (m : Nat) (x : Int) : valI (List.replicate m 0) x = 0 := by
  unfold valI
  simp only [List.getD_eq_getElem?_getD, List.getElem?_replicate]
  split <;> split <;> simp

def pimpI (V : Nat) (l : List (List Int)) (c : List Int) : Bool := conflictI l (startI (V + 1) c)

theorem pimpI_iff {V : Nat} {l : List (List Int)} (hl : WfL V l) {c : List Int} (hc : WfC V c) : pimpI V l c = true ↔ Conf l (negs c) := by
  refine conflictI_iff hl _ _ (Nat.le_refl _) ⟨startI_length _ _, fun x hx hv => ?_, fun x hx => ?_⟩
  · have hxV : x.natAbs ≤ V ∨ ¬ x.natAbs ≤ V := by omega
    rcases hxV with hxV | hxV
    · unfold startI at hv
      rw [startI_val c _ hc (by simp) x hx hxV, valI_zeros] at hv
      split at hv
      · rename_i h; exact .base h
      · split at hv <;> omega
    · exfalso
      have hlen : (startI (V + 1) c).length = V + 1 := startI_length _ _
      unfold valI at hv
      simp only [List.getD_eq_getElem?_getD] at hv
      split at hv
      · rw [List.getElem?_eq_none (by omega)] at hv; simp at hv
      · rw [List.getElem?_eq_none (by omega)] at hv; simp at hv
  · have h0 := hc.rng _ hx
    unfold startI
    rw [startI_val c _ hc (by simp) x (by omega) (by omega), if_pos hx]
    omega

theorem pimpI_eq {V : Nat} (hV : V ≤ 4096) {l : List (List Int)} (hl : WfL V l) {c : List Int} (hc : WfC V c) : pimpI V l c = followsI l c := by
  rw [Bool.eq_iff_iff, pimpI_iff hl hc, followsI_iff hV hl hc]

end Go.Proofs.Ytpiidgcljlalmaa
namespace Go.Proofs.Ytpiidgcljlalmaa
open Go.RowKit

theorem WfL.append' {V : Nat} {l p : List (List Int)} (h : WfL V l) (k : WfL V p) : WfL V (l ++ p) := fun c hc => (List.mem_append.1 hc).elim (h c) (k c)
theorem WfL.one {V : Nat} {c : List Int} (h : WfC V c) : WfL V [c] := fun d hd => by rw [List.mem_singleton.1 hd]; exact h
theorem followsI_mono {V : Nat} (hV : V ≤ 4096) {l l' : List (List Int)} (hl : WfL V l) (hl' : WfL V l') {c : List Int} (hc : WfC V c) (hs : ∀ x ∈ l, x ∈ l') (h : followsI l c = true) : followsI l' c = true :=
  (followsI_iff hV hl' hc).2 (((followsI_iff hV hl hc).1 h).mono hs fun _ h => h)
theorem gapF_mono {V : Nat} (hV : V ≤ 4096) : ∀ {p l l' : List (List Int)} {i j : Nat}, WfL V l → WfL V l' → WfL V p → (∀ x ∈ l, x ∈ l') → gapF i l p = none → gapF j l' p = none
  | [], _, _, _, _, _, _, _, _, _ => rfl
  | c :: p, l, l', i, j, hl, hl', hp, hs, h => by
    have hc := hp c (by simp)
    simp only [gapF] at h ⊢
    split at h
    · rename_i hf
      rw [if_pos (followsI_mono hV hl hl' hc hs hf)]
      refine gapF_mono hV (hl.append' (WfL.one hc)) (hl'.append' (WfL.one hc)) (fun d hd => hp d (by simp [hd])) (fun x hx => ?_) h
      rcases List.mem_append.1 hx with hx | hx
      · exact List.mem_append.2 (.inl (hs x hx))
      · exact List.mem_append.2 (.inr hx)
    · cases h
theorem gapI_neg {l p : List (List Int)} : gapI l p < 0 ↔ gapF 0 l p = none ∧ lastBad p = false := by
  unfold gapI
  cases h : gapF 0 l p with
  | some i => simp
  | none =>
    cases hb : lastBad p with
    | true => simp
    | false => simp
theorem badI_none {vars : Int} : ∀ {p : List (List Int)} {i : Nat}, badI vars i p = none ↔ ∀ c ∈ p, clauseI vars none c = 0
  | [], i => by simp [badI]
  | c :: p, i => by
    simp only [badI]
    by_cases h : clauseI vars none c = 0
    · rw [if_neg (by simp [h]), badI_none]; simp [h]
    · rw [if_pos h]; simp [h]
theorem verifyI_zero {vars : Int} {l p : List (List Int)} (h1 : checkI vars l = 0) (h2 : p.length ≤ 32768) (h3 : badI vars 0 p = none) : verifyI vars l p = if 0 ≤ gapI l p then (gapI l p, 18) else (0, 0) := by
  unfold verifyI
  rw [if_neg (by simp [h1]), if_neg (by omega), h3]
theorem lastBad_cons {c : List Int} {p : List (List Int)} (h : p ≠ []) : lastBad (c :: p) = lastBad p := by
  unfold lastBad
  rw [List.getLast?_cons, List.getLast?_eq_some_getLast h]
  rfl
theorem lastBad_nil : lastBad [] = true := rfl

structure Refut (V : Nat) (l p : List (List Int)) : Prop where
  wl : WfL V l
  wp : WfL V p
  ok : gapF 0 l p = none
  last : lastBad p = false

structure Modl (V : Nat) (m : List Int) : Prop where
  cons : ∀ x ∈ m, -x ∉ m
  total : ∀ x : Int, x ≠ 0 → x.natAbs ≤ V → x ∈ m ∨ -x ∈ m

theorem Der.holds {V : Nat} {l : List (List Int)} {a : Int → Prop} {m : List Int} (hm : Modl V m) (hl : ∀ c ∈ l, trueI c m = true) (ha : ∀ x, a x → x ∈ m) {x : Int} (h : Der l a x) : x ∈ m := by
  induction h with
  | base h => exact ha _ h
  | step hc _ _ ih =>
    rename_i c x _ _
    obtain ⟨z, hz, hzm⟩ := trueI_iff.1 (hl c hc)
    by_cases e : z = x
    · exact e ▸ hzm
    · exact absurd (ih z hz e) (hm.cons z hzm)
theorem follows_holds {V : Nat} (hV : V ≤ 4096) {l : List (List Int)} (hw : WfL V l) {c : List Int} (hc : WfC V c) {m : List Int} (hm : Modl V m) (hl : ∀ c ∈ l, trueI c m = true) (h : followsI l c = true) : trueI c m = true := by
  by_cases ht : trueI c m = true
  · exact ht
  · exfalso
    have hneg : ∀ y ∈ c, -y ∈ m := fun y hy => (hm.total y (hc.rng y hy).1 (hc.rng y hy).2).resolve_left fun h => ht (trueI_iff.2 ⟨y, hy, h⟩)
    obtain ⟨d, hd, h⟩ := (followsI_iff hV hw hc).1 h
    obtain ⟨z, hz, hzm⟩ := trueI_iff.1 (hl d hd)
    have := (h z hz).holds hm hl (fun x hx => by have := hneg _ hx; rwa [Int.neg_neg] at this)
    exact hm.cons z hzm this
theorem gapF_holds {V : Nat} (hV : V ≤ 4096) {m : List Int} (hm : Modl V m) : ∀ {p l : List (List Int)} {i : Nat}, WfL V l → WfL V p → (∀ c ∈ l, trueI c m = true) → gapF i l p = none → ∀ c ∈ p, trueI c m = true
  | [], _, _, _, _, _, _, c, hc => by cases hc
  | d :: p, l, i, hl, hp, ht, h, c, hc => by
    have hd := hp d (by simp)
    simp only [gapF] at h
    split at h
    · rename_i hf
      have htd := follows_holds hV hl hd hm ht hf
      rcases List.mem_cons.1 hc with rfl | hc
      · exact htd
      · refine gapF_holds hV hm (hl.append' (WfL.one hd)) (fun d hd => hp d (by simp [hd])) (fun x hx => ?_) h c hc
        rcases List.mem_append.1 hx with hx | hx
        · exact ht x hx
        · rw [List.mem_singleton.1 hx]; exact htd
    · cases h
theorem refut_holds {V : Nat} (hV : V ≤ 4096) {l p : List (List Int)} (h : Refut V l p) {m : List Int} (hm : Modl V m) : ¬ ∀ c ∈ l, trueI c m = true := by
  intro hl
  have hall := gapF_holds hV hm h.wl h.wp hl h.ok
  have hlast := h.last
  unfold lastBad at hlast
  cases hp : p.getLast? with
  | none => rw [hp] at hlast; cases hlast
  | some c =>
    rw [hp] at hlast
    have hc0 : c = [] := by
      cases c with
      | nil => rfl
      | cons x c => simp at hlast
    subst hc0
    have := hall [] (List.mem_of_getLast? hp)
    simp [trueI] at this

theorem remI_append {α : Type} (A S : List α) (c : α) : remI (A ++ c :: S) A.length = A ++ S := by
  unfold remI
  have h1 : (A ++ c :: S).take A.length = A := by simp
  have h2 : (A ++ c :: S).drop (A.length + 1) = S := by
    rw [List.drop_append, List.drop_eq_nil_of_le (by omega)]
    simp
  rw [h1, h2]
theorem prune_min {α : Type} {ok : List α → Bool} {Pr : α → Prop} {Q : List α → Prop} (hQ : ∀ c S, Q S → Q (c :: S))
    (hst : ∀ (A A' S : List α) (c : α), (∀ x ∈ A ++ c :: S, Pr x) → Q S → ok (A ++ c :: S) = true → List.Sublist A' A → ok (A' ++ S) = true → ok (A ++ S) = true) :
    ∀ (k : Nat) (A S : List α), A.length = k → (∀ x ∈ A ++ S, Pr x) → Q S → ok (A ++ S) = true → ∃ A', List.Sublist A' A ∧ prune ok k (A ++ S) = A' ++ S ∧ ok (A' ++ S) = true ∧ ∀ i, i < A'.length → ok (remI (A' ++ S) i) = false
  | 0, A, S, hA, _, _, h => by
    obtain rfl := List.eq_nil_of_length_eq_zero hA
    exact ⟨[], List.Sublist.refl _, rfl, h, fun i hi => absurd hi (Nat.not_lt_zero i)⟩
  | k + 1, A, S, hA, hpr, hq, h => by
    obtain ⟨A0, a, rfl⟩ : ∃ A0 a, A = A0 ++ [a] := by
      have hne : A ≠ [] := fun e => by rw [e] at hA; simp at hA
      exact ⟨A.dropLast, A.getLast hne, (List.dropLast_concat_getLast hne).symm⟩
    have hA0 : A0.length = k := by simpa using hA
    have e0 : A0 ++ [a] ++ S = A0 ++ a :: S := by simp
    have hrem : remI (A0 ++ [a] ++ S) k = A0 ++ S := by rw [e0, ← hA0]; exact remI_append A0 S a
    rw [e0] at hpr
    simp only [prune, hrem]
    cases hok : ok (A0 ++ S) with
    | true =>
      simp only [if_true]
      obtain ⟨A', h1, h2, h3, h4⟩ := prune_min hQ hst k A0 S hA0 (fun x hx => hpr x (by rcases List.mem_append.1 hx with hx | hx <;> simp [hx])) hq hok
      exact ⟨A', h1.trans (List.sublist_append_left _ _), h2, h3, h4⟩
    | false =>
      simp only [Bool.false_eq_true, if_false]
      rw [e0] at h ⊢
      obtain ⟨A', h1, h2, h3, h4⟩ := prune_min hQ hst k A0 (a :: S) hA0 hpr (hQ a S hq) h
      have e1 : A' ++ [a] ++ S = A' ++ a :: S := by simp
      refine ⟨A' ++ [a], List.Sublist.append h1 (List.Sublist.refl _), by rw [e1]; exact h2, by rw [e1]; exact h3, fun i hi => ?_⟩
      rw [e1]
      by_cases hi' : i < A'.length
      · exact h4 i hi'
      · have hie : i = A'.length := by simp at hi; omega
        subst hie
        rw [remI_append]
        cases hc : ok (A' ++ S) with
        | false => rfl
        | true => rw [hst A0 A' S a hpr hq h h1 hc] at hok; cases hok

theorem gapF_append {i : Nat} : ∀ {A S l : List (List Int)}, (gapF i l (A ++ S) = none ↔ gapF i l A = none ∧ gapF (i + A.length) (l ++ A) S = none)
  | [], S, l => by simp [gapF]
  | c :: A, S, l => by
    simp only [List.cons_append, gapF]
    by_cases h : followsI l c = true
    · rw [if_pos h, if_pos h, gapF_append (i := i + 1) (A := A)]
      rw [List.append_assoc, List.length_cons]
      have e : i + 1 + A.length = i + (A.length + 1) := by omega
      rw [e]; rfl
    · rw [if_neg h, if_neg h]; simp
theorem gapF_ix {i j : Nat} : ∀ {p l : List (List Int)}, gapF i l p = none ↔ gapF j l p = none
  | [], l => by simp [gapF]
  | c :: p, l => by
    simp only [gapF]
    by_cases h : followsI l c = true
    · rw [if_pos h, if_pos h, gapF_ix (i := i + 1) (j := j + 1)]
    · rw [if_neg h, if_neg h]; simp

theorem refutesI_iff {l p : List (List Int)} : refutesI l p = true ↔ gapF 0 l p = none ∧ lastBad p = false := by
  unfold refutesI
  rw [decide_eq_true_eq, gapI_neg]
theorem lastBad_append {A S : List (List Int)} (h : S ≠ []) : lastBad (A ++ S) = lastBad S := by
  induction A with
  | nil => rfl
  | cons c A ih => rw [List.cons_append, lastBad_cons (by simp [h]), ih]

theorem trim_facts {V : Nat} (hV : V ≤ 4096) {l p : List (List Int)} (h : Refut V l p) : Refut V l (trimI l p) ∧ List.Sublist (trimI l p) p ∧ ∀ i, i + 1 < (trimI l p).length → refutesI l (remI (trimI l p) i) = false := by
  have hne : p ≠ [] := fun e => by have := h.last; rw [e, lastBad_nil] at this; cases this
  have hp : p.dropLast ++ [p.getLast hne] = p := List.dropLast_concat_getLast hne
  have hlen : p.dropLast.length = p.length - 1 := List.length_dropLast
  obtain ⟨A', h1, h2, h3, h4⟩ := prune_min (ok := refutesI l) (Pr := WfC V) (Q := fun S => S ≠ []) (fun c S _ => by simp) (fun A A' S c hpr hq ho hs ho' => by
      obtain ⟨o1, o2⟩ := refutesI_iff.1 ho
      obtain ⟨o3, o4⟩ := refutesI_iff.1 ho'
      have hA : WfL V A := fun d hd => hpr d (by simp [hd])
      have hA' : WfL V A' := fun d hd => hA d (hs.subset hd)
      have hS : WfL V S := fun d hd => hpr d (by simp [hd])
      refine refutesI_iff.2 ⟨gapF_append.2 ⟨(gapF_append.1 o1).1, gapF_ix.1 (gapF_mono (i := 0 + A'.length) (j := 0) hV (h.wl.append' hA') (h.wl.append' hA) hS (fun x hx => ?_) (gapF_append.1 o3).2)⟩, ?_⟩
      · rcases List.mem_append.1 hx with hx | hx
        · exact List.mem_append.2 (.inl hx)
        · exact List.mem_append.2 (.inr (hs.subset hx))
      · rw [lastBad_append hq] at o4 ⊢; exact o4) (p.length - 1) p.dropLast [p.getLast hne] hlen (by rw [hp]; exact h.wp) (by simp) (by rw [hp]; exact refutesI_iff.2 ⟨h.ok, h.last⟩)
  rw [hp] at h2
  have e : trimI l p = A' ++ [p.getLast hne] := h2
  have hsub : List.Sublist (A' ++ [p.getLast hne]) p := by
    have := List.Sublist.append h1 (List.Sublist.refl [p.getLast hne])
    rwa [hp] at this
  rw [e]
  obtain ⟨o1, o2⟩ := refutesI_iff.1 h3
  exact ⟨⟨h.wl, fun d hd => h.wp d (hsub.subset hd), o1, o2⟩, hsub, fun i hi => h4 i (by simp at hi; exact hi)⟩

end Go.Proofs.Ytpiidgcljlalmaa
namespace Go.Proofs.Ytpiidgcljlalmaa
open Go.RowKit
structure Lits (V : Nat) (a : List Int) : Prop where
  rng : ∀ x ∈ a, x ≠ 0 ∧ x.natAbs ≤ V
  cons : ∀ x ∈ a, -x ∉ a
theorem Lits.snoc {V : Nat} {a : List Int} (h : Lits V a) {x : Int} (hx : x ≠ 0 ∧ x.natAbs ≤ V) (hn : -x ∉ a) : Lits V (a ++ [x]) where
  rng := fun y hy => by
    rcases List.mem_append.1 hy with hy | hy
    · exact h.rng y hy
    · rw [List.mem_singleton.1 hy]; exact hx
  cons := fun y hy q => by
    rcases List.mem_append.1 hy with hy | hy
    · rcases List.mem_append.1 q with q | q
      · exact h.cons y hy q
      · have := List.mem_singleton.1 q
        exact hn (by rw [show -x = y by omega]; exact hy)
    · have e := List.mem_singleton.1 hy
      subst e
      rcases List.mem_append.1 q with q | q
      · exact hn q
      · have := List.mem_singleton.1 q
        omega
end Go.Proofs.Ytpiidgcljlalmaa
