/-
  Part 35 of the texts that the claims of this seat lean on: walks of the program's functions by contracts over symbolic frames, and plain laws of what they compute. No condition.
-/
import Derived.Test.YtjbepoofigokjaaGreatVf21
import Derived.Test.YtjbepoofigokjaaGreatVf24
import Derived.Test.YtjbepoofigokjaaGreatVf26
import Derived.Test.YtjbepoofigokjaaGreatVf27
import Derived.Test.YtjbepoofigokjaaGreatVf29
import Derived.Test.YtjbepoofigokjaaGreatVf34
set_option linter.unusedVariables false
set_option linter.unusedSimpArgs false
set_option linter.unusedSectionVars false
namespace Go.Proofs.YtjbepoofigokjaaGreat
def subsN (s : List Vx) : Cx := (List.range 8).flatMap fun k => subsV (k + 1) s
theorem choose_sum : ∀ n ≤ 8, ((List.range 8).map fun k => chooseN n (k + 1)).sum ≤ 2 ^ n := by decide
theorem len_flat {α : Type} (f : α → Cx) : ∀ l : List α, (l.flatMap f).length = (l.map fun s => (f s).length).sum
  | [] => rfl
  | s :: l => by rw [List.flatMap_cons, List.length_append, len_flat f l, List.map_cons, List.sum_cons]
theorem subsN_len {s : List Vx} (h : s.length ≤ 8) : (subsN s).length ≤ 2 ^ s.length := by
  unfold subsN
  rw [len_flat]
  have e : (List.range 8).map (fun k => (subsV (k + 1) s).length) = (List.range 8).map fun k => chooseN s.length (k + 1) := List.map_congr_left fun k _ => subs_choose s (k + 1)
  rw [e]
  exact choose_sum _ h
theorem flat_pow : ∀ {l : Cx}, (∀ s ∈ l, s.length ≤ 8) → (l.flatMap subsN).length ≤ powN l
  | [], _ => Nat.le_refl _
  | s :: l, h => by
    have h1 := subsN_len (h s (List.mem_cons_self ..))
    have h2 := flat_pow (l := l) fun t ht => h t (List.mem_cons_of_mem _ ht)
    have e : powN (s :: l) = 2 ^ s.length + powN l := by unfold powN; rw [List.map_cons, List.sum_cons]
    rw [List.flatMap_cons, List.length_append, e]
    omega
theorem whole_pow {l : Cx} (hl : ∀ s ∈ l, chkV s = 0) : wholeN l 8 ≤ powN l := by
  rw [← wholeN_up]
  refine Nat.le_trans (List.Nodup.length_le_of_subset (upC_nodup (fun s hs => (chkV_zero.1 (hl s hs)).2.2.2) 8) fun x hx => ?_) (flat_pow fun s hs => (chk_len (hl s hs)).2)
  obtain ⟨j, h1, h2, h3⟩ := upC_mem.1 hx
  obtain ⟨f, hf, hm⟩ := allC_mem.1 h3
  refine List.mem_flatMap.2 ⟨f, hf, List.mem_flatMap.2 ⟨j - 1, List.mem_range.2 (by omega), ?_⟩⟩
  rw [show j - 1 + 1 = j by omega]
  exact hm
theorem few_sizes {l : Cx} (h : few32 l = true) (h0 : chkC l = 0) : wholeN l 8 ≤ 260 := by
  unfold few32 at h
  rw [Bool.and_eq_true, decide_eq_true_eq] at h
  exact Nat.le_trans (whole_pow (goodX_iff.1 h0).2.2.1) h.2
end Go.Proofs.YtjbepoofigokjaaGreat
namespace Go.Proofs.YtjbepoofigokjaaGreat
theorem len_inj {α β : Type} [DecidableEq β] (R : α → β → Prop) : ∀ {A : List α} {B : List β}, A.Nodup → (∀ a ∈ A, ∃ b ∈ B, R a b) → (∀ a ∈ A, ∀ a' ∈ A, ∀ b, R a b → R a' b → a = a') → A.length ≤ B.length
  | [], _, _, _, _ => Nat.zero_le _
  | a :: A, B, hn, h1, h2 => by
    rw [List.nodup_cons] at hn
    obtain ⟨b, hb, hr⟩ := h1 a (List.mem_cons_self ..)
    have h := len_inj R (A := A) (B := B.erase b) hn.2 (fun a' ha' => by
      obtain ⟨b', hb', hr'⟩ := h1 a' (List.mem_cons_of_mem _ ha')
      refine ⟨b', (List.mem_erase_of_ne fun e => ?_).2 hb', hr'⟩
      subst e
      have := h2 a (List.mem_cons_self ..) a' (List.mem_cons_of_mem _ ha') _ hr hr'
      subst this
      exact hn.1 ha') (fun a' ha' a'' ha'' b' => h2 a' (List.mem_cons_of_mem _ ha') a'' (List.mem_cons_of_mem _ ha'') b')
    have h3 := List.length_erase_of_mem hb
    have h4 := List.length_pos_of_mem hb
    rw [List.length_cons]; omega
theorem parts_le {l m : Cx} (h : ∀ s ∈ l, ∃ v, (∃ t ∈ m, v ∈ t) ∧ (∃ t ∈ l, v ∈ t) ∧ repM (ufC l) v = rootC l s)
    (k : ∀ u v, (∃ t ∈ m, u ∈ t) → (∃ t ∈ l, u ∈ t) → (∃ t ∈ m, v ∈ t) → (∃ t ∈ l, v ∈ t) → Conn (edgC m) u v → Conn (edgC l) u v) : partsN l ≤ partsN m := by
  unfold partsN
  refine len_inj (fun r r' => ∃ v, (∃ t ∈ m, v ∈ t) ∧ (∃ t ∈ l, v ∈ t) ∧ repM (ufC l) v = r ∧ repM (ufC m) v = r') (dist_inv _).1 (fun r hr => ?_) fun r _ r' _ b ⟨v, v1, v2, v3, v4⟩ ⟨u, u1, u2, u3, u4⟩ => ?_
  · obtain ⟨s, hs, rfl⟩ := List.mem_map.1 (((dist_inv _).2 r).1 hr)
    obtain ⟨v, ⟨t, ht, hv⟩, h2, h3⟩ := h s hs
    exact ⟨rootC m t, root_mem ht, v, ⟨t, ht, hv⟩, h2, h3, rep_in ht hv⟩
  · rw [← v3, ← u3]
    exact (conn_iff (edgC l) _ _).2 (k v u v1 v2 u1 u2 ((conn_iff (edgC m) _ _).1 (v4.trans u4.symm)))
theorem conn_has {m : Cx} {t : List Vx} (h : hasC' m t = true) {a b : Vx} (ha : a ∈ t) (hb : b ∈ t) : Conn (edgC m) a b := by
  obtain ⟨f, hf, hi⟩ := hasC_iff.1 h
  exact (conn_iff (edgC m) _ _).1 ((rep_in hf (inside_mem.1 hi a ha)).trans (rep_in hf (inside_mem.1 hi b hb)).symm)
theorem asc_one (a : Vx) : Asc [a] := List.pairwise_singleton _ _
theorem has_self {l : Cx} {f : List Vx} (hf : f ∈ l) : hasC' l f = true := hasC_iff.2 ⟨f, hf, inside_self f⟩
section
variable {l : Cx} (G : GoodX l) {x : Cl} (hx : PairOk l x)
include G hx
theorem pair_rest : ∃ y, y ∈ x.2 ∧ y ∉ x.1 := by
  refine Classical.byContradiction fun hn => ?_
  have hs : ∀ v ∈ x.2, v ∈ x.1 := fun v hv => Classical.byContradiction fun h => hn ⟨v, hv, h⟩
  have := List.Nodup.length_le_of_subset (asc_nd (G.asc _ hx.mem)) hs
  have := hx.len
  omega
theorem not_face {f : List Vx} (hf : f ∈ l) (hne : f ≠ x.2) : f ≠ x.1 := fun e => hne (hx.one f hf (by rw [e]; exact inside_self _))
theorem keep_has {f : List Vx} (hf : f ∈ l) (hne : f ≠ x.2) : hasC' (leftC l x) f = true := (left_has G hx (G.asc f hf)).2 ⟨has_self hf, not_face G hx hf hne, hne⟩
theorem top_conn {y : Vx} (hy : y ∈ x.2) (hn : y ∉ x.1) {a : Vx} (ha : a ∈ x.2) (h1 : [a] ≠ x.1) : Conn (edgC (leftC l x)) a y := by
  by_cases e : a = y
  · subst e; exact .refl _
  have hasc : Asc (allV [a] [y]) := asc_allV (asc_one a)
  have hl : (allV [a] [y]).length = 2 := len_disj (asc_one a) (asc_one y) fun v hv h => e (by rw [List.mem_singleton] at hv h; rw [← hv, ← h])
  have hm : ∀ v, v ∈ allV [a] [y] ↔ v = a ∨ v = y := fun v => by rw [mem_allV, List.mem_singleton, List.mem_singleton]
  refine conn_has (t := allV [a] [y]) ((left_has G hx hasc).2 ⟨hasC_iff.2 ⟨x.2, hx.mem, inside_mem.2 fun v hv => ?_⟩, fun q => hn (by rw [← q]; exact (hm y).2 (.inr rfl)), fun q => ?_⟩) ((hm a).2 (.inl rfl)) ((hm y).2 (.inr rfl))
  · rcases (hm v).1 hv with rfl | rfl
    · exact ha
    · exact hy
  · have ln := hx.len
    rw [← q, hl] at ln
    obtain ⟨z, hz⟩ := List.length_eq_one_iff.1 (show x.1.length = 1 by omega)
    have hzm : z ∈ x.2 := hx.sub.subset (by rw [hz]; exact List.mem_singleton_self z)
    rw [← q] at hzm
    rcases (hm z).1 hzm with rfl | rfl
    · exact h1 hz.symm
    · exact hn (by rw [hz]; exact List.mem_singleton_self z)
theorem left_sub {s : List Vx} (hs : s ∈ leftC l x) : ∃ f ∈ l, insideV s f = true := by
  have h := ((left_has G hx ((chkV_zero.1 (left_chk G hx s hs)).2.2.2)).1 (has_self hs)).1
  exact hasC_iff.1 h
theorem left_pts {v : Vx} : (∃ t ∈ leftC l x, v ∈ t) ↔ (∃ t ∈ l, v ∈ t) ∧ [v] ≠ x.1 := by
  have ln := hx.len
  have p1 := chk_len hx.chk1
  have key := left_has G hx (t := [v]) (asc_one v)
  have hp : ∀ m : Cx, hasC' m [v] = true ↔ ∃ t ∈ m, v ∈ t := fun m => by
    rw [hasC_iff]
    constructor
    · rintro ⟨f, hf, hi⟩; exact ⟨f, hf, inside_mem.1 hi v (List.mem_singleton_self v)⟩
    · rintro ⟨f, hf, hi⟩; exact ⟨f, hf, inside_mem.2 fun u hu => by rw [List.mem_singleton.1 hu]; exact hi⟩
  rw [hp, hp] at key
  rw [key]
  constructor
  · rintro ⟨h1, h2, _⟩; exact ⟨h1, h2⟩
  · rintro ⟨h1, h2⟩; exact ⟨h1, h2, fun e => by rw [← e, List.length_singleton] at ln; omega⟩
theorem left_parts : partsN (leftC l x) = partsN l := by
  obtain ⟨y, hy, hn⟩ := pair_rest G hx
  have hyl : ∃ t ∈ l, y ∈ t := ⟨x.2, hx.mem, hy⟩
  have hy1 : [y] ≠ x.1 := fun e => hn (by rw [← e]; exact List.mem_singleton_self y)
  have hcl : ∀ u v, Conn (edgC (leftC l x)) u v → Conn (edgC l) u v := fun u v h => by
    have hedge : ∀ a b, (a, b) ∈ edgC (leftC l x) → Conn (edgC l) a b := fun a b hab => by
      obtain ⟨f, hf, h1, h2⟩ := edgC_mem.1 hab
      obtain ⟨g, hg, hi⟩ := left_sub G hx hf
      have hb : b ∈ f := List.mem_of_mem_drop h2
      have ha : a ∈ f := by rw [show a = hdV f from h1]; exact hd_mem (List.length_pos_of_mem hb)
      exact conn_has (t := g) (has_self hg) (inside_mem.1 hi a ha) (inside_mem.1 hi b hb)
    induction h with
    | refl => exact .refl _
    | step _ e ih => exact ih.trans (e.elim (hedge _ _) fun e => (hedge _ _ e).symm)
  let p : Vx → Vx := fun a => if [a] = x.1 then y else a
  have hp1 : ∀ a, [a] ≠ x.1 → p a = a := fun a h => if_neg h
  have hpt : ∀ a ∈ x.2, Conn (edgC (leftC l x)) (p a) y := fun a ha => by
    by_cases h : [a] = x.1
    · have : p a = y := if_pos h
      rw [this]; exact .refl _
    · rw [hp1 a h]; exact top_conn G hx hy hn ha h
  have hpe : ∀ a b, (a, b) ∈ edgC l → Conn (edgC (leftC l x)) (p a) (p b) := fun a b hab => by
    obtain ⟨f, hf, h1, h2⟩ := edgC_mem.1 hab
    have hb : b ∈ f := List.mem_of_mem_drop h2
    have ha : a ∈ f := by rw [show a = hdV f from h1]; exact hd_mem (List.length_pos_of_mem hb)
    by_cases hfx : f = x.2
    · subst hfx; exact (hpt a ha).trans (hpt b hb).symm
    · have hno : ∀ c ∈ f, [c] ≠ x.1 := fun c hc e => hfx (hx.one f hf (by rw [← e]; exact inside_mem.2 fun u hu => by rw [List.mem_singleton.1 hu]; exact hc))
      rw [hp1 a (hno a ha), hp1 b (hno b hb)]
      exact conn_has (keep_has G hx hf hfx) ha hb
  have hlc : ∀ u v, Conn (edgC l) u v → Conn (edgC (leftC l x)) (p u) (p v) := fun u v h => by
    induction h with
    | refl => exact .refl _
    | step _ e ih => exact ih.trans (e.elim (hpe _ _) fun e => (hpe _ _ e).symm)
  refine Nat.le_antisymm (parts_le (fun s hs => ?_) fun u v u1 u2 v1 v2 h => ?_) (parts_le (fun s hs => ?_) fun u v u1 u2 v1 v2 h => hcl u v h)
  · have hm := hd_mem (chk_len (left_chk G hx s hs)).1
    have h2 : ∃ t ∈ leftC l x, hdV s ∈ t := ⟨s, hs, hm⟩
    exact ⟨hdV s, ((left_pts G hx).1 h2).1, h2, rfl⟩
  · have := hlc u v h
    rwa [hp1 u ((left_pts G hx).1 u2).2, hp1 v ((left_pts G hx).1 v2).2] at this
  · by_cases hsx : s = x.2
    · subst hsx
      exact ⟨y, (left_pts G hx).2 ⟨hyl, hy1⟩, hyl, rep_in hx.mem hy⟩
    · have hm := hd_mem (chk_len (G.2.2.1 s hs)).1
      have h2 : ∃ t ∈ l, hdV s ∈ t := ⟨s, hs, hm⟩
      exact ⟨hdV s, (left_pts G hx).2 ⟨h2, fun e => hsx (hx.one s hs (by rw [← e]; exact inside_mem.2 fun u hu => by rw [List.mem_singleton.1 hu]; exact hm))⟩, h2, rfl⟩
end
end Go.Proofs.YtjbepoofigokjaaGreat
namespace Go.Proofs.YtjbepoofigokjaaGreat
def sgnI (k : Nat) : Int := if k % 2 = 1 then 1 else -1
theorem sgnI_two (k : Nat) : sgnI k = 1 ∨ sgnI k = -1 := by unfold sgnI; split; exact .inl rfl; exact .inr rfl
theorem sgnI_succ (k : Nat) : sgnI (k + 1) = - sgnI k := by
  unfold sgnI
  by_cases h : k % 2 = 1
  · rw [if_neg (by omega), if_pos h]
  · rw [if_pos (by omega), if_neg h]; rfl
theorem eulS_sgn (l : Cx) (k : Nat) : eulS l (k + 1) = eulS l k + sgnI (k + 1) * ((allC l (k + 1)).length : Int) := by
  show (if (k + 1) % 2 = 1 then _ else _) = _
  unfold sgnI
  by_cases h : (k + 1) % 2 = 1
  · rw [if_pos h, if_pos h]; omega
  · rw [if_neg h, if_neg h]; omega
section
variable {l : Cx} (G : GoodX l) {x : Cl} (hx : PairOk l x)
include G hx
theorem left_eul : ∀ n, eulS (leftC l x) n + (if x.1.length ≤ n then sgnI x.1.length else 0) + (if x.2.length ≤ n then sgnI x.2.length else 0) = eulS l n
  | 0 => by
    have h1 := chk_len hx.chk1
    have h2 := chk_len hx.chk2
    rw [if_neg (by omega), if_neg (by omega)]
    rfl
  | n + 1 => by
    have h := left_eul n
    have k := left_len G hx (n + 1)
    have ln := hx.len
    rw [eulS_sgn, eulS_sgn]
    have hs := sgnI_two (n + 1)
    by_cases a : n + 1 = x.1.length
    · rw [if_pos a, if_neg (by omega)] at k
      rw [if_neg (by omega), if_neg (by omega)] at h
      rw [if_pos (by omega), if_neg (by omega), ← a]
      rcases hs with hs | hs <;> rw [hs] <;> omega
    · by_cases b : n + 1 = x.2.length
      · rw [if_neg a, if_pos b] at k
        rw [if_pos (by omega), if_neg (by omega)] at h
        rw [if_pos (by omega), if_pos (by omega), ← b]
        rcases hs with hs | hs <;> rw [hs] <;> omega
      · rw [if_neg a, if_neg b] at k
        by_cases c : x.1.length ≤ n
        · rw [if_pos c, if_pos (by omega)] at h
          rw [if_pos (by omega), if_pos (by omega)]
          rcases hs with hs | hs <;> rw [hs] <;> omega
        · rw [if_neg c, if_neg (by omega)] at h
          rw [if_neg (by omega), if_neg (by omega)]
          rcases hs with hs | hs <;> rw [hs] <;> omega
theorem left_eul8 : eulS (leftC l x) 8 = eulS l 8 := by
  have h := left_eul G hx 8
  rw [if_pos (chk_len hx.chk1).2, if_pos (chk_len hx.chk2).2, ← hx.len, sgnI_succ] at h
  omega
end
theorem steps_good : ∀ {m : List Cl} {c d : Cx}, stepsV c m = some d → GoodX c → wholeN c 8 ≤ 4098 → GoodX d ∧ wholeN d 8 + 2 * m.length = wholeN c 8 ∧ partsN d = partsN c ∧ eulS d 8 = eulS c 8
  | [], c, d, h, G, hw => by
    cases h
    exact ⟨G, rfl, rfl, rfl⟩
  | x :: m, c, d, h, G, hw => by
    have h' : (if x ∈ pairsC c then stepsV (leftC c x) m else none) = some d := h
    by_cases hm : x ∈ pairsC c
    · rw [if_pos hm] at h'
      have hx := pair_ok G hm
      have h2 := left_two G hx
      obtain ⟨k1, k2, k3, k4⟩ := steps_good h' (left_good G hx hw) (by omega)
      exact ⟨k1, by rw [List.length_cons]; omega, k3.trans (left_parts G hx), k4.trans (left_eul8 G hx)⟩
    · rw [if_neg hm] at h'; cases h'
theorem redC_steps : ∀ (n : Nat) {c : Cx}, GoodX c → wholeN c 8 ≤ 4098 → stepsV c (redC n c).2 = some (redC n c).1
  | 0, c, _, _ => rfl
  | n + 1, c, G, hw => by
    cases hp : pairsC c with
    | nil => rw [redC_nil hp]; rfl
    | cons x t =>
      have hm : x ∈ pairsC c := by rw [hp]; exact List.mem_cons_self ..
      have hx := pair_ok G hm
      have h2 := left_two G hx
      rw [redC_cons hp]
      show (if x ∈ pairsC c then stepsV (leftC c x) _ else none) = _
      rw [if_pos hm]
      exact redC_steps n (left_good G hx hw) (by omega)
theorem redC_ends : ∀ (n : Nat) {c : Cx}, GoodX c → wholeN c 8 ≤ n → n ≤ 4098 → pairsC (redC n c).1 = []
  | 0, c, G, h, _ => by
    have h1 := few_whole G.2.1 G.2.2.1
    have : c = [] := List.eq_nil_of_length_eq_zero (by omega)
    subst this; rfl
  | n + 1, c, G, h, h9 => by
    cases hp : pairsC c with
    | nil => rw [redC_nil hp]; exact hp
    | cons x t =>
      have hm : x ∈ pairsC c := by rw [hp]; exact List.mem_cons_self ..
      have hx := pair_ok G hm
      have h2 := left_two G hx
      rw [redC_cons hp]
      exact redC_ends n (left_good G hx (by omega)) (by omega) (by omega)
structure RedOk (c d : Cx) (m : List Cl) : Prop where
  ends : pairsC d = []
  steps : stepsV c m = some d
  good : GoodX d
  whole : wholeN d 8 + 2 * m.length = wholeN c 8
  parts : partsN d = partsN c
  eul : eulS d 8 = eulS c 8
theorem red_ok {c : Cx} (G : GoodX c) (hw : wholeN c 8 ≤ 4096) : RedOk c (reducedC c).1 (reducedC c).2 := by
  have h := redC_steps 4096 G (by omega)
  obtain ⟨h1, h2, h3, h4⟩ := steps_good h G (by omega)
  exact ⟨redC_ends 4096 G hw (by omega), h, h1, h2, h3, h4⟩
end Go.Proofs.YtjbepoofigokjaaGreat
namespace Go.Proofs.YtjbepoofigokjaaGreat
open Go.RowKit
set_option linter.unusedSimpArgs false

set_option maxHeartbeats 2000000
set_option maxRecDepth 100000
theorem left_few {l : Cx} (G : GoodX l) {x : Cl} (hx : PairOk l x) (hw : wholeN l 8 ≤ 4098) : (leftC l x).length ≤ 4096 := (left_good G hx hw).1
set_option maxHeartbeats 8000000 in
theorem step32_p (l : Cx) (x : Cl) (hw : chkC l = 0 → wholeN l 8 ≤ 4098) : Fn Tryz.prog 17 [dS Cpx l, dS Col x] (dT [dS Cpx (stepK l x).1, dI (stepK l x).2]) := by
  (refine Fn.introC2 tyC Tryz.func17 rfl rfl ?_; simp only [Tryz.ntmps17, List.length_cons, List.length_nil, Nat.reduceAdd, Nat.reduceSub, List.replicate_succ, List.replicate_zero, List.cons_append, List.nil_append])
  have c0 := check_p l
  have c1 := chk_p x.1
  have c2 := chk_p x.2
  by_cases h0 : chkC l = 0
  · by_cases h1 : chkV x.1 = 0
    · by_cases h2 : chkV x.2 = 0
      · have G := goodX_iff.1 h0
        have c3 := is32_p l G x
        by_cases h3 : x ∈ pairsC l
        · rw [decide_eq_true h3] at c3
          have hx := pair_ok G h3
          have h4 := left_few G hx (hw h0)
          have c4 := after32_p l G x hx h4
          have e : stepK l x = (leftC l x, 0) := by unfold stepK; rw [if_neg (by omega), if_neg (by omega), if_neg (by omega), if_neg (by simpa using h3), if_neg (by omega)]
          rw [e]
          generalize leftC l x = L at *
          ((repeat' (first | (apply WL.opN; exact yF; dsimp only [setD, z0, z1]) | refine WL.nil ?_ | refine WC.seqK fun Kx hK => ?_ | (refine hK _ _ ?_; clear hK) | refine WC.region ?_ | (apply WL.alloc; (first | exact tzV | exact tzC); (first | exact shape_X rfl | exact shape_XV | exact shape_C0 rfl); (intro _; dsimp only [setD, z0, z1])) | (apply WL.storeF; (exact tD); rfl; (exact oD); (exact hD); dsimp only [setD, z0, z1]) | (apply WL.opN; (focus ((first | (apply SY.call (c0) Tryz.call35; (exact aD)) | (apply SY.call (c1) Tryz.call47; exact ArgsD.cons (OpD.t rfl) (ArgsD.nil)) | (apply SY.call (c2) Tryz.call47; exact ArgsD.cons (OpD.t rfl) (ArgsD.nil)) | (apply SY.call (c3) Tryz.call48; (exact aD)) | (apply SY.call (c4) Tryz.call49; (exact aD)) | ((first | apply SY.move | apply SY.assign | apply SY.neq | apply SY.not) <;> (exact oD)) | (apply SY.fldP0 colT; exact OpD.t rfl) | (apply SY.fldP1 colT; exact OpD.t rfl) | (apply SY.extract; (exact oD); rfl) | (apply SY.box; (exact oD); (exact hD)) | fail); all_goals infer_instance)); dsimp only [setD, z0, z1]) | (apply WC.condN; (exact oD); all_goals (intro h; try exact xD)) | (apply WC.condNB; (exact oD); all_goals (intro h; try exact xD)) | refine WC.skip ?_ | refine WC.ret ?_)); all_goals (first | ((repeat clear hK); (repeat clear Kx))))
          all_goals first | (exfalso; omega) | (refine ⟨trivial, ⟨_, rfl, ?_⟩, _, rfl, ?_⟩ <;> exact fD)
        · rw [decide_eq_false h3] at c3
          have e : stepK l x = ([], 6) := by unfold stepK; rw [if_neg (by omega), if_neg (by omega), if_neg (by omega), if_pos h3]
          rw [e]
          ((repeat' (first | (apply WL.opN; exact yF; dsimp only [setD, z0, z1]) | refine WL.nil ?_ | refine WC.seqK fun Kx hK => ?_ | (refine hK _ _ ?_; clear hK) | refine WC.region ?_ | (apply WL.alloc; (first | exact tzV | exact tzC); (first | exact shape_X rfl | exact shape_XV | exact shape_C0 rfl); (intro _; dsimp only [setD, z0, z1])) | (apply WL.storeF; (exact tD); rfl; (exact oD); (exact hD); dsimp only [setD, z0, z1]) | (apply WL.opN; (focus ((first | (apply SY.call (c0) Tryz.call35; (exact aD)) | (apply SY.call (c1) Tryz.call47; exact ArgsD.cons (OpD.t rfl) (ArgsD.nil)) | (apply SY.call (c2) Tryz.call47; exact ArgsD.cons (OpD.t rfl) (ArgsD.nil)) | (apply SY.call (c3) Tryz.call48; (exact aD)) | ((first | apply SY.move | apply SY.assign | apply SY.neq | apply SY.not) <;> (exact oD)) | exact SY.mkC0 cpxT | (apply SY.fldP0 colT; exact OpD.t rfl) | (apply SY.fldP1 colT; exact OpD.t rfl) | (apply SY.box; (exact oD); (exact hD)) | fail); all_goals infer_instance)); dsimp only [setD, z0, z1]) | (apply WC.condN; (exact oD); all_goals (intro h; try exact xD)) | (apply WC.condNB; (exact oD); all_goals (intro h; try exact xD)) | refine WC.skip ?_ | refine WC.ret ?_ | refine ThenD.r ?_)); all_goals (first | ((repeat clear hK); (repeat clear Kx))))
          all_goals first | (exfalso; omega) | (refine ⟨trivial, ⟨_, rfl, ?_⟩, _, rfl, ?_⟩ <;> exact fD)
      · have e : stepK l x = ([], chkV x.2) := by unfold stepK; rw [if_neg (by omega), if_neg (by omega), if_pos h2]
        rw [e]
        ((repeat' (first | (apply WL.opN; exact yF; dsimp only [setD, z0, z1]) | refine WL.nil ?_ | refine WC.seqK fun Kx hK => ?_ | (refine hK _ _ ?_; clear hK) | refine WC.region ?_ | (apply WL.alloc; (first | exact tzV | exact tzC); (first | exact shape_X rfl | exact shape_XV | exact shape_C0 rfl); (intro _; dsimp only [setD, z0, z1])) | (apply WL.storeF; (exact tD); rfl; (exact oD); (exact hD); dsimp only [setD, z0, z1]) | (apply WL.opN; (focus ((first | (apply SY.call (c0) Tryz.call35; (exact aD)) | (apply SY.call (c1) Tryz.call47; exact ArgsD.cons (OpD.t rfl) (ArgsD.nil)) | (apply SY.call (c2) Tryz.call47; exact ArgsD.cons (OpD.t rfl) (ArgsD.nil)) | ((first | apply SY.move | apply SY.assign | apply SY.neq | apply SY.not) <;> (exact oD)) | exact SY.mkC0 cpxT | (apply SY.fldP0 colT; exact OpD.t rfl) | (apply SY.fldP1 colT; exact OpD.t rfl) | (apply SY.box; (exact oD); (exact hD)) | fail); all_goals infer_instance)); dsimp only [setD, z0, z1]) | (apply WC.condN; (exact oD); all_goals (intro h; try exact xD)) | refine WC.skip ?_ | refine WC.ret ?_ | refine ThenD.r ?_)); all_goals (first | ((repeat clear hK); (repeat clear Kx))))
        all_goals first | (exfalso; omega) | (refine ⟨trivial, ⟨_, rfl, ?_⟩, _, rfl, ?_⟩ <;> exact fD)
    · have e : stepK l x = ([], chkV x.1) := by unfold stepK; rw [if_neg (by omega), if_pos h1]
      rw [e]
      ((repeat' (first | (apply WL.opN; exact yF; dsimp only [setD, z0, z1]) | refine WL.nil ?_ | refine WC.seqK fun Kx hK => ?_ | (refine hK _ _ ?_; clear hK) | refine WC.region ?_ | (apply WL.alloc; (first | exact tzV | exact tzC); (first | exact shape_X rfl | exact shape_XV | exact shape_C0 rfl); (intro _; dsimp only [setD, z0, z1])) | (apply WL.storeF; (exact tD); rfl; (exact oD); (exact hD); dsimp only [setD, z0, z1]) | (apply WL.opN; (focus ((first | (apply SY.call (c0) Tryz.call35; (exact aD)) | (apply SY.call (c1) Tryz.call47; exact ArgsD.cons (OpD.t rfl) (ArgsD.nil)) | ((first | apply SY.move | apply SY.assign | apply SY.neq | apply SY.not) <;> (exact oD)) | exact SY.mkC0 cpxT | (apply SY.fldP0 colT; exact OpD.t rfl) | (apply SY.fldP1 colT; exact OpD.t rfl) | (apply SY.box; (exact oD); (exact hD)) | fail); all_goals infer_instance)); dsimp only [setD, z0, z1]) | (apply WC.condN; (exact oD); all_goals (intro h; try exact xD)) | refine WC.skip ?_ | refine WC.ret ?_ | refine ThenD.r ?_)); all_goals (first | ((repeat clear hK); (repeat clear Kx))))
      all_goals first | (exfalso; omega) | (refine ⟨trivial, ⟨_, rfl, ?_⟩, _, rfl, ?_⟩ <;> exact fD)
  · have e : stepK l x = ([], chkC l) := by unfold stepK; rw [if_pos h0]
    rw [e]
    ((repeat' (first | (apply WL.opN; exact yF; dsimp only [setD, z0, z1]) | refine WL.nil ?_ | refine WC.seqK fun Kx hK => ?_ | (refine hK _ _ ?_; clear hK) | refine WC.region ?_ | (apply WL.alloc; (first | exact tzV | exact tzC); (first | exact shape_X rfl | exact shape_XV | exact shape_C0 rfl); (intro _; dsimp only [setD, z0, z1])) | (apply WL.storeF; (exact tD); rfl; (exact oD); (exact hD); dsimp only [setD, z0, z1]) | (apply WL.opN; (focus ((first | (apply SY.call (c0) Tryz.call35; (exact aD)) | ((first | apply SY.move | apply SY.assign | apply SY.neq | apply SY.not) <;> (exact oD)) | exact SY.mkC0 cpxT | (apply SY.box; (exact oD); (exact hD)) | fail); all_goals infer_instance)); dsimp only [setD, z0, z1]) | (apply WC.condN; (exact oD); all_goals (intro h; try exact xD)) | refine WC.ret ?_ | refine ThenD.r ?_)); all_goals (first | ((repeat clear hK); (repeat clear Kx))))
    all_goals first | (exfalso; omega) | (refine ⟨trivial, ⟨_, rfl, ?_⟩, _, rfl, ?_⟩ <;> exact fD)
theorem of_good {l : Cx} (G : GoodX l) : ofP l = (l, 0) := by
  unfold ofP
  rw [if_neg (by have := G.1; omega), errC_of G.2.2.1, if_neg (by omega), max_good G]
end Go.Proofs.YtjbepoofigokjaaGreat
