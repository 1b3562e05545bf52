/-
  Part 33 of the texts that the claims of this seat lean on: walks of the program's functions by contracts over symbolic frames, and plain laws of what they compute. No condition.
-/
import Derived.Test.YtkedmlandjlogaaGreatVb6
import Derived.Test.YtkedmlandjlogaaGreatVb9
import Derived.Test.YtkedmlandjlogaaGreatVb13
import Derived.Test.YtkedmlandjlogaaGreatVb19
import Derived.Test.YtkedmlandjlogaaGreatVb26
import Derived.Test.YtkedmlandjlogaaGreatVb32
set_option linter.unusedVariables false
set_option linter.unusedSimpArgs false
set_option linter.unusedSectionVars false
namespace Go.Proofs.YtkedmlandjlogaaGreat
open Go.RowKit
set_option linter.unusedSimpArgs false

set_option maxHeartbeats 2000000
set_option maxRecDepth 100000
theorem WL.storeF4 {P : Program} {ops : Array Oper} {hp : List HObj} {fr : List Dat} {d : Dat} {Q : Post} {rest : List Oper} {ty : TypeId} {ps : String} {af : Array Edge} {x : Operand} {t b n : Nat} {T T2 : TypeId} {agg : Bool} {d0 : Dat} {o1 o2 o3 : HObj} (hT : TyI P T n agg) (hp0 : fr[t]? = some (dX (.pointer (some ⟨b, 0, none⟩)))) (hx : OpD fr x d) (hs : d.Shape n agg)
    (h : WL P ops Q rest (fr.set t (dP n agg d)) (o1 :: o2 :: o3 :: hp)) : WL P ops Q ({ dst := none, op := .store T (.tmp t) x, type := ty, pos := ps, after := af, guard := none } :: rest) fr (o1 :: o2 :: o3 :: hCell b T2 n agg d0 :: hp) :=
  WL.perm (((List.Perm.cons o1 ((List.Perm.swap _ _ _).cons _ |>.trans (List.Perm.swap _ _ _)))).trans (List.Perm.swap _ _ _)) (WL.storeF hT hp0 hx hs h)
theorem point27_p (c : Int) : Fn Tryz.prog 76 [dI c] (dS RV (c, 0)) := by
  -- @kinds all
  refine Fn.introC1 tyV Tryz.func76 rfl rfl ?_
  simp only [Tryz.ntmps76, List.length_cons, List.length_nil, Nat.reduceAdd, Nat.reduceSub, List.replicate_succ, List.replicate_zero, List.cons_append, List.nil_append]
  ((repeat' (first | (apply WL.opG; (focus (apply SYG.yes; (exact want_none rfl); (first | (apply SY.move <;> (exact oD))))); dsimp only [setD, z0, z1]) | refine WL.nil ?_ | refine WC.seqK fun Kx hK => ?_ | (refine hK _ _ ?_; clear hK) | refine WC.region ?_ | (apply WL.alloc; (first | exact tzV | exact tzC); (first | exact shape_X rfl | exact shape_XV | exact shape_C0 rfl); (intro _; dsimp only [setD, z0, z1])) | (apply WL.storeF; (exact tD); rfl; (exact oD); (exact hD); dsimp only [setD, z0, z1]) | (apply WL.opG; (focus (apply SYG.yes; (exact want_none rfl); ((first | exact yBuild | fail); all_goals infer_instance))); dsimp only [setD, z0, z1]) | refine WC.ret ?_)); all_goals (first | refine WC.id ?_ | refine WL.id ?_ | refine WDs.id ?_ | ((repeat clear hK); (repeat clear Kx))))
  all_goals (refine ⟨trivial, _, rfl, ?_⟩; (first | exact fD | refine FinD.i ?_ | refine FinD.b ?_ | refine FinD.rowKE (.head _) ?_ | refine FinD.rowE (.head _) ?_ | refine FinD.nilKE (by decide) ?_ | refine FinD.nilE ?_ | refine FinD.s ?_))
abbrev va : Vx := (0, 0)
abbrev vb : Vx := (1, 0)
abbrev vc : Vx := (2, 0)
abbrev vd : Vx := (3, 0)
abbrev exC : Cx := [[va, vb, vc], [vc, vd]]
theorem a_of : ofP [[vc, vd], [vb], [va, vb, vc], [vc, vd]] = (exC, 0) := by decide
theorem a_simp : simplC exC 2 = ([[va, vb], [va, vc], [vb, vc], [vc, vd]], 0) := by decide
theorem a_chk : chkC exC = 0 := by decide
theorem a_dim : dimC exC = 2 := by decide
theorem a_pure : sizeP exC = false := by decide
theorem a_euler : eulC exC = (1, 0) := by decide
theorem a_star : starC exC [vc] = (exC, 0) := by decide
theorem a_link : linkC exC [vc] = ([[va, vb], [vd]], 0) := by decide
theorem a_other : linkC exC [va] = ([[vb, vc]], 0) := by decide
theorem a_bnd : bndP [[va, vb, vc], [vb, vc, vd]] = ([[va, vb], [va, vc], [vb, vd], [vc, vd]], 0) := by decide
theorem a_bnd2 : bndP exC = ([], 15) := by decide
set_option maxHeartbeats 16000000 in
theorem awake27_p : Fn Tryz.prog 17 [] (dB true) := by
  have c1 := of27_p [[vc, vd], [vb], [va, vb, vc], [vc, vd]]
  rw [a_of] at c1
  have c2 := simplices27_p exC 2
  rw [a_simp] at c2
  have c3 := dimensionX_p exC
  rw [a_chk, a_dim, a_pure, if_neg (by decide), if_neg (by decide)] at c3
  have c4 := euler27_p exC
  rw [a_euler] at c4
  have c5 := star27_p exC [vc]
  rw [a_star] at c5
  have c6 := link27_p exC [vc]
  rw [a_link] at c6
  have c7 := link27_p exC [va]
  rw [a_other] at c7
  have c8 := boundary27_p [[va, vb, vc], [vb, vc, vd]]
  rw [a_bnd] at c8
  have c9 := boundary27_p exC
  rw [a_bnd2] at c9
  have s : ∀ l : Cx, Fn Tryz.prog 77 [dS Simps l, dS Simps l] (dB true) := fun l => by
    have := sameAll_c l l
    rwa [decide_eq_true rfl] at this
  have s2 : ∀ l : Cx, Fn Tryz.prog 21 [dS Cpx l, dS Cpx l] (dB true) := fun l => by
    have := sameC_c l l
    rwa [decide_eq_true rfl] at this
  refine Fn.intro1 Tryz.func17 rfl rfl ?_
  show WC _ _ _ (List.replicate 206 (dX undef)) []
  simp only [List.replicate_succ, List.replicate_zero]
  ((repeat' (first | (apply WL.opG; (focus (apply SYG.yes; (exact want_none rfl); (first | (apply SY.move <;> (exact oD)) | (apply SY.assign <;> (exact oD)) | (apply SY.load; (exact tD); (exact OpD.t rfl))))); dsimp only [setD, z0, z1]) | refine WL.nil ?_ | refine WC.seqK fun Kx hK => ?_ | (refine hK _ _ ?_; clear hK) | refine WC.region ?_ |  (apply WL.storeF4; exact tyV; rfl; exact OpD.t rfl; exact shape_V; dsimp only [setD, z0, z1]) | (apply WL.alloc; (first | exact tzV | exact tzC); (first | exact shape_X rfl | exact shape_XV | exact shape_C0 rfl); (intro _; dsimp only [setD, z0, z1])) | (apply WL.storeF; (exact tD); rfl; (exact oD); (exact hD); dsimp only [setD, z0, z1]) | (apply WL.storeF2; (exact tD); rfl; (exact oD); (exact hD); dsimp only [setD, z0, z1]) | (apply WL.storeF3; (exact tD); rfl; (exact oD); (exact hD); dsimp only [setD, z0, z1]) | (apply WL.opG; (focus (first | (apply SYG.no; first | exact want_notT rfl rfl rfl (by with_reducible rfl) | exact want_notF rfl rfl rfl (by with_reducible rfl)) | (apply SYG.yes; (first | exact want_none rfl | exact want_yes rfl rfl rfl (by with_reducible rfl)); ((first | (apply SY.call (point27_p _) Tryz.call76; (exact aD)) | (apply SY.call (c1) Tryz.call25; (exact aD)) | (apply SY.call (c2) Tryz.call74; (exact aD)) | (apply SY.call (c3) Tryz.call32; (exact aD)) | (apply SY.call (c4) Tryz.call19; (exact aD)) | (apply SY.call (c5) Tryz.call39; (exact aD)) | (apply SY.call (c6) Tryz.call22; exact ArgsD.cons (OpD.t rfl) (ArgsD.cons (OpD.t rfl) (ArgsD.nil))) | (apply SY.call (c7) Tryz.call22; exact ArgsD.cons (OpD.t rfl) (ArgsD.cons (OpD.t rfl) (ArgsD.nil))) | (apply SY.call (c8) Tryz.call64; exact ArgsD.cons (OpD.t rfl) (ArgsD.nil)) | (apply SY.call (c9) Tryz.call64; exact ArgsD.cons (OpD.t rfl) (ArgsD.nil)) | (apply SY.call (s _) Tryz.call77; (exact aD)) | (apply SY.call (s2 _) Tryz.call21; (exact aD)) | exact yMove | exact yEql | exact yNeq | exact yNot | exact yAdd | exact yLoad | exact yFieldaddr | exact yBuild | exact yBuildslice | exact yPick | exact yExtract | fail); all_goals infer_instance)))); dsimp only [setD, z0, z1]) | ((first | refine WL.caseP rfl rfl rfl (fun h => ?_) (fun h => ?_) | refine WL.caseN rfl rfl rfl (fun h => ?_) (fun h => ?_) | refine WL.caseB rfl rfl rfl (fun h => ?_) (fun h => ?_)) <;> (first | (exfalso; first | omega | contradiction) | (dsimp only [z0, z1]))) | (apply WC.condN; (exact oD); (all_goals intro h); (all_goals try (exfalso; first | omega | contradiction))) | (apply WC.condNB; (exact oD); (all_goals intro h); (all_goals try (exfalso; first | omega | contradiction))) | refine WC.skip ?_ | refine WC.ret ?_)); all_goals (first | refine WC.id ?_ | refine WL.id ?_ | refine WDs.id ?_ | ((repeat clear hK); (repeat clear Kx))))
  (refine ⟨trivial, _, rfl, ?_⟩; (first | exact fD | refine FinD.i ?_ | refine FinD.b ?_ | refine FinD.rowKE (.head _) ?_ | refine FinD.rowE (.head _) ?_ | refine FinD.nilKE (by decide) ?_ | refine FinD.nilE ?_ | refine FinD.s ?_))
end Go.Proofs.YtkedmlandjlogaaGreat
namespace Go.Proofs.YtkedmlandjlogaaGreat
open Go.RowKit
set_option linter.unusedSimpArgs false

set_option maxHeartbeats 2000000
set_option maxRecDepth 100000
def chooseN : Nat → Nat → Nat
  | _, 0 => 1
  | 0, _ + 1 => 0
  | n + 1, k + 1 => chooseN n k + chooseN n (k + 1)
theorem subs_choose : ∀ (s : List Vx) (k : Nat), (subsV k s).length = chooseN s.length k
  | s, 0 => by rw [subsV_zero]; cases s <;> rfl
  | [], k + 1 => by rw [subsV_short _ _ (by simp)]; rfl
  | v :: s, k + 1 => by rw [subsV_next, subs_choose s k, subs_choose s (k + 1)]; rfl
theorem few_len {l : Cx} (h : fewAllV l = true) : l.length ≤ 30 := by
  unfold fewAllV at h
  simp only [Bool.and_eq_true, decide_eq_true_eq] at h
  exact h.1
theorem sameC_self (l : Cx) : Fn Tryz.prog 21 [dS Cpx l, dS Cpx l] (dB true) := by
  have := sameC_c l l
  rwa [decide_eq_true rfl] at this
end Go.Proofs.YtkedmlandjlogaaGreat
namespace Go.Proofs.YtkedmlandjlogaaGreat
theorem chk_len {s : List Vx} (h : chkV s = 0) : 0 < s.length ∧ s.length ≤ 8 := by
  obtain ⟨h1, h2, _⟩ := chkV_zero.1 h
  exact ⟨by omega, h2⟩
theorem meet_mem {a b : Cx} {x : List Vx} : x ∈ meetC27 a b ↔ ∃ f ∈ a, ∃ g ∈ b, x = g.filter (fun v => decide (v ∈ f)) ∧ 0 < x.length := by
  unfold meetC27 eachC
  rw [List.mem_flatten]
  constructor
  · rintro ⟨l, hl, hx⟩
    obtain ⟨f, hf, rfl⟩ := List.mem_map.1 hl
    obtain ⟨h1, h2⟩ := List.mem_filter.1 hx
    obtain ⟨g, hg, rfl⟩ := List.mem_map.1 h1
    exact ⟨f, hf, g, hg, rfl, of_decide_eq_true h2⟩
  · rintro ⟨f, hf, g, hg, rfl, h⟩
    exact ⟨_, List.mem_map.2 ⟨f, hf, rfl⟩, List.mem_filter.2 ⟨List.mem_map.2 ⟨g, hg, rfl⟩, decide_eq_true h⟩⟩
theorem inside_mem {a b : List Vx} : insideV a b = true ↔ ∀ x ∈ a, x ∈ b := by
  unfold insideV
  rw [List.all_eq_true]
  exact ⟨fun h x hx => of_decide_eq_true (h x hx), fun h x hx => decide_eq_true (h x hx)⟩
theorem all_few {l : Cx} {k B : Nat} (h : ∀ s ∈ l, (subsV k s).length ≤ B) : (allC l k).length ≤ B * l.length := by
  have h1 : (allC l k).length ≤ (fcsC l k).length := List.Nodup.length_le_of_subset (allC_asc l _).nodup fun x hx => fcsC_mem.2 hx
  have h2 : ∀ l : Cx, (∀ s ∈ l, (subsV k s).length ≤ B) → (fcsC l k).length ≤ B * l.length := by
    intro l
    induction l with
    | nil => intro _; simp [fcsC]
    | cons s l ih =>
      intro h
      have h3 := ih fun x hx => h x (List.mem_cons_of_mem _ hx)
      have h4 := h s (by simp)
      have h5 : (fcsC (s :: l) k).length = (subsV k s).length + (fcsC l k).length := by unfold fcsC; simp
      rw [h5, List.length_cons, Nat.mul_add, Nat.mul_one]
      omega
  exact Nat.le_trans h1 (h2 l h)
theorem choose_5 : ∀ n ≤ 5, ∀ k ≤ 5, chooseN n k ≤ 10 := by decide
structure Gd (l : Cx) : Prop where
  good : GoodX l
  few : l.length ≤ 30
  five : ∀ s ∈ l, s.length ≤ 5
theorem Gd.all {l : Cx} (h : Gd l) (k : Nat) : (allC l k).length ≤ 300 := by
  have := all_few (l := l) (k := k) (B := 10) fun s hs => by
    have h5 := h.five s hs
    by_cases hk : k ≤ 5
    · rw [subs_choose]; exact choose_5 _ h5 _ hk
    · rw [subsV_short k s (by omega)]; simp
  have := h.few
  omega
theorem Gd.zero {l : Cx} (h : Gd l) : chkC l = 0 := goodX_iff.2 h.good
theorem Gd.none {l : Cx} (h : Gd l) {k : Nat} (hk : 5 < k) : allC l k = [] := by
  apply List.eq_nil_iff_forall_not_mem.2
  intro x hx
  obtain ⟨f, hf, hx⟩ := allC_mem.1 hx
  rw [subsV_short k f (by have := h.five f hf; omega)] at hx
  simp at hx
theorem filt_swap {f g : List Vx} (hf : Asc f) (hg : Asc g) : f.filter (fun v => decide (v ∈ g)) = g.filter (fun v => decide (v ∈ f)) :=
  asc_ext (List.Pairwise.filter _ hf) (List.Pairwise.filter _ hg) fun x => by simp [List.mem_filter, and_comm]
end Go.Proofs.YtkedmlandjlogaaGreat
namespace Go.Proofs.YtkedmlandjlogaaGreat
def prodC (a b : Cx) : Cx := a.flatMap fun s => b.map fun t => allV s t
def ptsC (a : Cx) : List Vx := allV [] a.flatten
theorem ptsC_mem {a : Cx} {v : Vx} : v ∈ ptsC a ↔ ∃ s ∈ a, v ∈ s := by unfold ptsC; rw [mem_allV]; simp
theorem ptsC_asc (a : Cx) : Asc (ptsC a) := asc_allV (by simp [Asc])
theorem allV_app (s a b : List Vx) : allV s (a ++ b) = allV (allV s a) b := by unfold allV; rw [List.foldl_append]
theorem ptsC_snoc {a : Cx} {k : Nat} (h : k < a.length) : ptsC (a.take (k + 1)) = allV (ptsC (a.take k)) a[k] := by
  unfold ptsC
  rw [take_snoc' h, List.flatten_append, allV_app]
  simp
theorem prodC_mem {a b : Cx} {x : List Vx} : x ∈ prodC a b ↔ ∃ s ∈ a, ∃ t ∈ b, x = allV s t := by
  unfold prodC
  rw [List.mem_flatMap]
  constructor
  · rintro ⟨s, hs, h⟩
    obtain ⟨t, ht, rfl⟩ := List.mem_map.1 h
    exact ⟨s, hs, t, ht, rfl⟩
  · rintro ⟨s, hs, t, ht, rfl⟩
    exact ⟨s, hs, List.mem_map_of_mem ht⟩
theorem prodC_snoc {a b : Cx} {k : Nat} (h : k < a.length) : prodC (a.take (k + 1)) b = prodC (a.take k) b ++ b.map fun t => allV a[k] t := by
  unfold prodC; rw [take_snoc' h, List.flatMap_append]; simp
theorem prodC_len (a b : Cx) : (prodC a b).length = a.length * b.length := by
  induction a with
  | nil => simp [prodC]
  | cons s a ih =>
    have : prodC (s :: a) b = (b.map fun t => allV s t) ++ prodC a b := rfl
    rw [this, List.length_append, ih, List.length_map, List.length_cons, Nat.succ_mul, Nat.add_comm]
def Apart (a b : Cx) : Prop := ∀ s ∈ a, ∀ t ∈ b, ∀ v ∈ s, v ∉ t
theorem apart_iff {a b : Cx} : ¬ 0 < (sharedV (ptsC a) (ptsC b) true).length ↔ Apart a b := by
  rw [List.length_pos_iff_exists_mem]
  constructor
  · intro h s hs t ht v v1 v2
    refine h ⟨v, ?_⟩
    unfold sharedV
    exact List.mem_filter.2 ⟨ptsC_mem.2 ⟨s, hs, v1⟩, by simpa using ptsC_mem.2 ⟨t, ht, v2⟩⟩
  · rintro h ⟨v, hv⟩
    unfold sharedV at hv
    obtain ⟨h1, h2⟩ := List.mem_filter.1 hv
    obtain ⟨s, hs, v1⟩ := ptsC_mem.1 h1
    obtain ⟨t, ht, v2⟩ := ptsC_mem.1 (by simpa using h2)
    exact h s hs t ht v v1 v2
theorem Apart.symm {a b : Cx} (h : Apart a b) : Apart b a := fun s hs t ht v v1 v2 => h t ht s hs v v2 v1
theorem inside_prod {a b : Cx} (h : Apart a b) {s s' t t' : List Vx} (hs : s ∈ a) (hs' : s' ∈ a) (ht : t ∈ b) (ht' : t' ∈ b) : insideV (allV s t) (allV s' t') = true ↔ insideV s s' = true ∧ insideV t t' = true := by
  rw [inside_mem, inside_mem, inside_mem]
  constructor
  · intro k
    refine ⟨fun x hx => ?_, fun x hx => ?_⟩
    · rcases mem_allV.1 (k x (mem_allV.2 (.inl hx))) with h1 | h1
      · exact h1
      · exact absurd h1 (h s hs t' ht' x hx)
    · rcases mem_allV.1 (k x (mem_allV.2 (.inr hx))) with h1 | h1
      · exact absurd hx (h s' hs' t ht x h1)
      · exact h1
  · rintro ⟨k1, k2⟩ x hx
    rcases mem_allV.1 hx with h1 | h1
    · exact mem_allV.2 (.inl (k1 x h1))
    · exact mem_allV.2 (.inr (k2 x h1))
theorem inside_anti {a : Cx} (ha : GoodX a) {s t : List Vx} (hs : s ∈ a) (ht : t ∈ a) (h : insideV s t = true) : s = t := by
  by_cases he : s = t
  · exact he
  · have := inside_lt (ha.asc s hs) (ha.asc t ht) h he
    have h2 : coveredC a s = true := coveredC_iff.2 ⟨t, ht, this, h⟩
    rw [ha.2.2.2 s hs] at h2; cases h2
theorem prod_top {a b : Cx} (ha : GoodX a) (hb : GoodX b) (h : Apart a b) : (prodC a b).filter (topC (prodC a b)) = prodC a b := by
  rw [List.filter_eq_self]
  intro x hx
  obtain ⟨s, hs, t, ht, rfl⟩ := prodC_mem.1 hx
  have h0 := (chk_len (ha.2.2.1 s hs)).1
  unfold topC
  rw [Bool.and_eq_true]
  refine ⟨decide_eq_true (Nat.lt_of_lt_of_le h0 (allV_len t s).1), ?_⟩
  cases hc : coveredC (prodC a b) (allV s t) with
  | false => rfl
  | true =>
    obtain ⟨y, hy, h1, h2⟩ := coveredC_iff.1 hc
    obtain ⟨s', hs', t', ht', rfl⟩ := prodC_mem.1 hy
    obtain ⟨k1, k2⟩ := (inside_prod h hs hs' ht ht').1 h2
    rw [inside_anti ha hs hs' k1, inside_anti hb ht ht' k2] at h1
    omega
theorem prod_max {a b : Cx} (ha : GoodX a) (hb : GoodX b) (h : Apart a b) : maxC (prodC a b) = (prodC a b).foldl putC [] := by unfold maxC; rw [prod_top ha hb h]
theorem dim_len {a : Cx} {s : List Vx} (hs : s ∈ a) : (s.length : Int) ≤ dimC a + 1 := by
  have h1 := (most_max a).1 s hs
  have h2 := most_dim a
  omega
theorem prod_chk {a b : Cx} (ha : GoodX a) (hb : GoodX b) (hd : dimC a + dimC b + 2 ≤ 8) : ∀ x ∈ prodC a b, chkV x = 0 := fun x hx => by
  obtain ⟨s, hs, t, ht, rfl⟩ := prodC_mem.1 hx
  obtain ⟨h1, h2, h3, h4⟩ := chkV_zero.1 (ha.2.2.1 s hs)
  obtain ⟨k1, k2, k3, k4⟩ := chkV_zero.1 (hb.2.2.1 t ht)
  have d1 := dim_len hs
  have d2 := dim_len ht
  have l1 := allV_len t s
  refine chkV_zero.2 ⟨by omega, by omega, fun v hv => ?_, asc_allV h4⟩
  rcases mem_allV.1 hv with hv | hv
  · exact h3 v hv
  · exact k3 v hv
def joinC (a b : Cx) : Cx × Int := if twoC a b ≠ 0 then ([], twoC a b) else if 0 < (sharedV (ptsC a) (ptsC b) true).length then ([], 7) else if a.length = 0 then (b, 0) else if b.length = 0 then (a, 0) else if 8 < dimC a + dimC b + 2 ∨ 4096 < a.length * b.length then ([], 5) else ((prodC a b).foldl putC [], 0)
def joinP (a b : Cx) : Cx × Int := if twoC a b ≠ 0 then ([], twoC a b) else if a.length = 0 ∨ b.length = 0 then (maxC (a ++ b), 0) else if 0 < (sharedV (ptsC a) (ptsC b) true).length then ([], 7) else if 8 < dimC a + dimC b + 2 ∨ 4096 < a.length * b.length then ([], 5) else (maxC (prodC a b), 0)
theorem shared_nil {a b : List Vx} (h : a = [] ∨ b = []) : ¬ 0 < (sharedV a b true).length := by
  rcases h with rfl | rfl
  · simp [sharedV]
  · simp [sharedV]
theorem join_same (a b : Cx) : joinP a b = joinC a b := by
  unfold joinP joinC
  by_cases h0 : twoC a b ≠ 0
  · rw [if_pos h0, if_pos h0]
  rw [if_neg h0, if_neg h0]
  obtain ⟨ga, gb⟩ := two_good27 (show twoC a b = 0 by omega)
  by_cases ha : a.length = 0
  · have e : a = [] := List.eq_nil_of_length_eq_zero ha
    subst e
    rw [if_pos (.inl (by rfl)), if_neg (shared_nil (a := ptsC []) (b := ptsC b) (.inl rfl)), if_pos (show ([] : Cx).length = 0 from rfl), List.nil_append, max_good gb]
  by_cases hb : b.length = 0
  · have e : b = [] := List.eq_nil_of_length_eq_zero hb
    subst e
    rw [if_pos (.inr (by rfl)), if_neg (shared_nil (a := ptsC a) (b := ptsC []) (.inr rfl)), if_neg ha, if_pos (show ([] : Cx).length = 0 from rfl), List.append_nil, max_good ga]
  rw [if_neg (by omega : ¬ (a.length = 0 ∨ b.length = 0))]
  by_cases h1 : 0 < (sharedV (ptsC a) (ptsC b) true).length
  · rw [if_pos h1, if_pos h1]
  rw [if_neg h1, if_neg h1, if_neg ha, if_neg hb, prod_max ga gb (apart_iff.1 h1)]
def ofC (l : Cx) : Cx × Int := if 4096 < l.length then ([], 5) else if errC l ≠ 0 then ([], errC l) else limC (maxC l)
def mtC (a b : Cx) : Cx := a.flatMap fun s => b.map fun t => sharedV s t true
theorem mtC_snoc {a b : Cx} {k : Nat} (h : k < a.length) : mtC (a.take (k + 1)) b = mtC (a.take k) b ++ b.map fun t => sharedV a[k] t true := by
  unfold mtC; rw [take_snoc' h, List.flatMap_append]; simp
theorem mtC_len (a b : Cx) : (mtC a b).length = a.length * b.length := by
  induction a with
  | nil => simp [mtC]
  | cons s a ih =>
    have : mtC (s :: a) b = (b.map fun t => sharedV s t true) ++ mtC a b := rfl
    rw [this, List.length_append, ih, List.length_map, List.length_cons, Nat.succ_mul, Nat.add_comm]
def meetR (a b : Cx) : Cx × Int := if twoC a b ≠ 0 then ([], twoC a b) else if 65536 < a.length * b.length then ([], 17) else limC (maxC (mtC a b))
theorem shared_filt {f g : List Vx} (hf : Asc f) (hg : Asc g) : sharedV f g true = g.filter fun v => decide (v ∈ f) := by
  rw [← filt_swap hf hg]
  unfold sharedV
  refine List.filter_congr fun x _ => ?_
  simp
theorem meet_same (a b : Cx) : meetP a b = meetR a b := by
  unfold meetP meetR
  by_cases h0 : twoC a b ≠ 0
  · rw [if_pos h0, if_pos h0]
  rw [if_neg h0, if_neg h0]
  obtain ⟨ga, gb⟩ := two_good27 (show twoC a b = 0 by omega)
  by_cases h1 : 65536 < a.length * b.length
  · rw [if_pos h1, if_pos h1]
  rw [if_neg h1, if_neg h1]
  have : maxC (meetC27 a b) = maxC (mtC a b) := max_ext fun x hx => by
    rw [meet_mem]
    unfold mtC
    rw [List.mem_flatMap]
    constructor
    · rintro ⟨f, hf, g, hg, rfl, _⟩
      exact ⟨f, hf, List.mem_map.2 ⟨g, hg, shared_filt (ga.asc f hf) (gb.asc g hg)⟩⟩
    · rintro ⟨f, hf, h⟩
      obtain ⟨g, hg, rfl⟩ := List.mem_map.1 h
      exact ⟨f, hf, g, hg, shared_filt (ga.asc f hf) (gb.asc g hg), by omega⟩
  rw [this]
end Go.Proofs.YtkedmlandjlogaaGreat
namespace Go.Proofs.YtkedmlandjlogaaGreat.M
open Go.RowKit

section
variable {P : Program} {ops : Array Oper} {hp : List HObj} {fr : List Dat} {dst : Option Tmp} {ty : TypeId} {ps : String} {af : Array Edge} {g : Option (Nat × Bool)} {t e : TypeId} {n bytes : Nat} {z : Value} {ag : Bool}
theorem SY.buildE (E : ElT P t e n z bytes ag) {α : Type} {R : Rel α} {_gR : Good R} {len : Nat} {parts : Array (Nat × Operand)} {els : List α} (hx : ElsD fr R (parts.toList.map Prod.snd) els) (hparts : parts.toList = ((parts.toList.map Prod.snd).zipIdx).map (fun p => (p.2, p.1))) (hl : len = els.length) (hn : 0 < n) (hs : ∀ a, (dS R a).Shape n true) (hsm : els.length * n ≤ 16777216) :
    SY P ops hp { dst := dst, op := .buildSlice t len parts, type := ty, pos := ps, after := af, guard := g } fr (dS (ArrK n R) els) := SY.buildK E hx hparts hl hn hs hsm
end
theorem cmpL_one (x y : Vx) : cmpL [x] [y] = cmpV x y := by
  unfold cmpL
  by_cases h : cmpV x y = 0
  · rw [if_pos h, h]; rfl
  · rw [if_neg h]
theorem vtx_p (x y : Vx) : Fn Tryz.prog 146 [dS RV x, dS RV y] (dI (cmpV x y)) := by
  (refine Fn.intro1 Tryz.func146 rfl rfl ?_; simp only [Tryz.ntmps146, List.length_cons, List.length_nil, Nat.reduceAdd, Nat.reduceSub, List.replicate_succ, List.replicate_zero, List.cons_append, List.nil_append])
  ((repeat' (first | (apply WL.opG; (focus (apply SYG.yes; (exact want_none rfl); (first | (apply SY.assign <;> (exact oD)) | (apply SY.load; (exact tD); (exact OpD.t rfl))))); dsimp only [setD, z0, z1]) | refine WL.nil ?_ | refine WC.seqK fun Kx hK => ?_ | (refine hK _ _ ?_; clear hK) | refine WC.region ?_ | (apply WL.opG; (focus (apply SYG.yes; (exact want_none rfl); ((first | (apply SY.call (cmpL_p [x] [y]) Tryz.call93; (exact aD)) | (apply SY.buildE; (first | exact eD | exact elC); ((try simp only [List.map_cons, List.map_nil]); (repeat (first | exact ElsD.nl | (apply ElsD.cn; (first | exact OpD.t rfl | exact OpD.i | exact OpD.b | exact OpD.tle rfl (by first | exact Dat.le_nil | exact Dat.le_nilK (by decide)) | exact ⟨Dat.le_nil⟩ | exact ⟨Dat.le_nilK (by decide)⟩))))); rfl; rfl; decide; (intro _; exact shape_V); (exact (by simp))) | (apply SY.box; (exact oD); (exact hD)) | fail); all_goals infer_instance))); dsimp only [setD, z0, z1]) | refine WC.ret ?_)); all_goals (first | refine WC.id ?_ | refine WL.id ?_ | refine WDs.id ?_ | ((repeat clear hK); (repeat clear Kx))))
  all_goals (rw [cmpL_one]; (refine ⟨trivial, _, rfl, ?_⟩; (first | exact fD | refine FinD.i ?_ | refine FinD.b ?_ | refine FinD.rowKE (.head _) ?_ | refine FinD.rowE (.head _) ?_ | refine FinD.nilKE (by decide) ?_ | refine FinD.nilE ?_ | refine FinD.s ?_)); try rfl)
theorem vtx_x (x y : Vx) (w : World) : Calls Tryz.prog 146 #[.agg #[.int .i64 x.1, .int .i64 x.2], .agg #[.int .i64 y.1, .int .i64 y.2]] w fun e w' => e = .returned (.int .i64 (cmpV x y)) ∧ ∃ q os', w' = Go.Sort.grow (w.drewN q) os' := by
  have := (vtx_p x y).out (fun _ => True) w [.agg #[.int .i64 x.1, .int .i64 x.2], .agg #[.int .i64 y.1, .int .i64 y.2]] rfl (fun i d hd => by
    match i with
    | 0 => cases hd; rfl
    | 1 => cases hd; rfl
    | i + 2 => simp at hd)
  exact this.mono fun e w' ⟨v, h1, h2, h3⟩ => ⟨by rw [h1]; exact congrArg _ h3, h2.grow⟩
end Go.Proofs.YtkedmlandjlogaaGreat.M
namespace Go.Proofs.YtkedmlandjlogaaGreat
open Go.RowKit
set_option linter.unusedSimpArgs false

set_option maxHeartbeats 2000000
set_option maxRecDepth 100000
section
variable {ops : Array Oper} {hp : List HObj} {fr : List Dat} {Q : Post} {rest : List Oper} {dst : Option Tmp} {ty : TypeId} {ps : String} {af : Array Edge}
theorem WL.growV0 {x : Operand} {n : Nat} {ats : Array TypeId} (hx : OpD fr x (dI (n : Int))) (h0 : n = 0)
    (h : ∀ v : Value, WL Tryz.prog ops Q rest (setD fr dst (dX v)) (hRowK v 37 2 RV ([] : List Vx) :: hp)) :
    WL Tryz.prog ops Q ({ dst := dst, op := .call { callee := .value (.func 160), args := #[.const (.slice none 0 0), x], argTypes := ats }, type := ty, pos := ps, after := af, guard := none } :: rest) fr hp := by
  subst h0
  refine WL.of fun P0 B w0 w a hh hf => ?_
  have hcon := Any8.slices_Grow_room Tryz.growV none 0 0 0 w (Nat.le_refl _) (by omega) (by omega) (by omega)
  change Calls Tryz.prog 160 _ _ _ at hcon
  have hev : a.eval x = .int .i64 ((0 : Nat) : Int) := hx.ev hf
  have hrun : (execOp a.eval { dst := dst, op := .call { callee := .value (.func 160), args := #[.const (.slice none 0 0), x], argTypes := ats }, type := ty, pos := ps, after := af, guard := none }).run Tryz.prog w = .ok (.enter 160 #[.slice none 0 0, .int .i64 ((0 : Nat) : Int)]) w := by
    unfold execOp
    simp only [resolve]
    have he : (#[Operand.const (.slice none 0 0), x] : Array Operand).map a.eval = #[.slice none 0 0, .int .i64 ((0 : Nat) : Int)] := by simp [hev]; rfl
    rw [he]
    simp [Act.eval, Deferred.ofValue, invoke, Tryz.call160]
  refine wpList_plain rfl fun K hK => ?_
  unfold Oper.wp
  rw [hrun]
  refine hcon.mono fun e' w' ⟨he, hw'⟩ => ?_
  subst he
  subst hw'
  refine hK _ _ ((WL.nilRowK 37 2 (by decide) RV (h (.slice none 0 0))).on hh (Fr.put hf rfl))
end
set_option maxHeartbeats 4000000 in
theorem concat_o (ss : List (List Vx)) (hl : ss.flatten.length ≤ 1000) : CallC Tryz.prog 103 [dS Simps ss] [] (fun d hp2 => ∃ v, d = dX v ∧ hp2 = [hRowK v 37 2 RV ss.flatten]) := by
  have hstep : ∀ (k : Nat) (hk : k < ss.length), (ss.take (k + 1)).flatten = (ss.take k).flatten ++ ss[k] := fun k hk => by rw [take_snoc' hk, List.flatten_append]; simp
  have hle : ∀ k : Nat, (ss.take k).flatten.length ≤ ss.flatten.length := fun k => by
    conv => rhs; rw [← List.take_append_drop k ss]
    rw [List.flatten_append, List.length_append]; omega
  (refine CallC.intro Tryz.func103 rfl rfl (fun hp => ?_); simp only [Tryz.ntmps103, List.length_cons, List.length_nil, List.length_append, List.length_map, Nat.reduceAdd, Nat.reduceSub, List.replicate_succ, List.replicate_zero, List.cons_append, List.nil_append, List.map_cons, List.map_nil, List.append_assoc])
  ((repeat' (first | (apply WL.opG; (focus (apply SYG.yes; (exact want_none rfl); (first | (apply SY.move <;> (exact oD)) | (apply SY.assign <;> (exact oD)) | (apply SY.load; (exact tD); (exact OpD.t rfl))))); dsimp only [setD, z0, z1]) | refine WL.nil ?_ | refine WC.seqK fun Kx hK => ?_ | (refine hK _ _ ?_; clear hK) | refine WC.region ?_ | (apply WL.opG; (focus (apply SYG.yes; (exact want_none rfl); ((first | (apply SY.len; (exact oD); (first | exact len_K | exact len_A | exact len_nil); (first | exact uD | exact elC.unt)) | fail); all_goals infer_instance))); dsimp only [setD, z0, z1]) | refine WC.block ?_)); all_goals (first | refine WC.id ?_ | refine WL.id ?_ | refine WDs.id ?_ | ((repeat clear hK); (repeat clear Kx))))
  (first | refine WC.know (t := 0) rfl le_K fun hl0 => ?_ | refine WC.know (t := 0) rfl le_A fun hl0 => ?_ | refine WC.know (t := 0) rfl le_C fun hl0 => ?_); simp only [maxLen] at hl0
  (refine WC.loopU (X := Nat) (fun k => [(3, dI ((ss.take k).flatten.length : Int)), (11, dI (k : Int)), (5, dA), (12, dA), (13, dA), (14, dA), (15, dA), (16, dA), (17, dA), (18, dA), (19, dA), (20, dA), (21, dA), (22, dA)]) (fun k => hp) (fun k => ss.length - k) (fun k => k ≤ ss.length) 0 ?start ?frame0 ?objs0 ?round)
  case start => simp
  case frame0 => ((try dsimp only [upds, z0, z1]); repeat (first | exact LeF.nil | refine LeF.cons (by first | with_reducible exact Dat.le_any _ | with_reducible exact Dat.le_refl _ | exact le_ii (by omega) | exact Dat.le_nil | exact Dat.le_nilK (by decide) | assumption | exact Dat.le_refl _ | exact le_eq (by simp)) ?_))
  case objs0 => rfl
  case round =>
    rintro k h1
    dsimp only [upds, z0, z1]
    have hk1 := hle k
    by_cases hks : k < ss.length
    · ((repeat' (first | (apply WL.opG; (focus (apply SYG.yes; (exact want_none rfl); (first | (apply SY.move <;> (exact oD)) | (apply SY.assign <;> (exact oD)) | (apply SY.load; (exact tD); (exact OpD.t rfl))))); dsimp only [setD, z0, z1]) | refine WL.nil ?_ | refine WC.seqK fun Kx hK => ?_ | (refine hK _ _ ?_; clear hK) | refine WC.region ?_ | (apply WL.opG; (focus (apply SYG.yes; (exact want_none rfl); ((first | (apply SY.add; exact OpD.t rfl; exact OpD.t rfl; (have := hstep k (by omega); have h7 := hle (k + 1); rw [this, List.length_append] at h7; omega)) | ((first | apply SY.move | apply SY.assign | apply SY.lss) <;> (exact oD)) | ((first | apply SY.add) <;> first | exact oD | omega) | (apply SY.len; (exact oD); (first | exact len_K | exact len_A | exact len_nil); (first | exact uD | exact elC.unt)) | (apply SY.ix; (first | exact eD | exact elC); (exact oD); (exact oD); (first | assumption | omega)) | fail); all_goals infer_instance))); dsimp only [setD, z0, z1]) | (apply WC.condD; (exact oD); (all_goals intro h); (all_goals try (exfalso; first | omega | contradiction))) | refine WC.skip ?_ | refine WC.block ?_ | refine ThenD.n ?_)); all_goals (first | refine WC.id ?_ | refine WL.id ?_ | refine WDs.id ?_ | ((repeat clear hK); (repeat clear Kx))))
      all_goals
        have h5 := hstep k (by omega)
        have h6 : ((ss.take (k + 1)).flatten.length : Int) = (ss.take k).flatten.length + (ss[k]'(by omega)).length := by rw [h5, List.length_append]; rfl
        rw [← h6]
        (refine ⟨k + 1, ?_, by first | omega | (simp only; omega), rfl, ?_⟩; rotate_left; ((try dsimp only [upds, z0, z1]); repeat (first | exact LeF.nil | refine LeF.cons (by first | with_reducible exact Dat.le_any _ | with_reducible exact Dat.le_refl _ | exact le_ii (by omega) | exact Dat.le_nil | exact Dat.le_nilK (by decide) | assumption | exact Dat.le_refl _ | exact le_eq (by simp)) ?_)); (try dsimp only))
        omega
    · have hk2 : (ss.take k).flatten = ss.flatten := by rw [List.take_of_length_le (by omega)]
      rw [hk2]
      by_cases h0 : 0 < ss.flatten.length
      all_goals
        ((repeat' (first | (apply WL.opG; (focus (apply SYG.yes; (exact want_none rfl); (first | (apply SY.move <;> (exact oD)) | (apply SY.assign <;> (exact oD)) | (apply SY.load; (exact tD); (exact OpD.t rfl))))); dsimp only [setD, z0, z1]) | refine WL.nil ?_ | refine WC.seqK fun Kx hK => ?_ | (refine hK _ _ ?_; clear hK) | (refine Kont.skip ?_; clear hK) | refine WC.region ?_ |  (apply WL.growV; exact OpD.t rfl; exact h0; exact hl; intro vg; dsimp only [setD, z0, z1]) |  (apply WL.growV0; exact OpD.t rfl; exact (by omega); intro vg; dsimp only [setD, z0, z1]) | (apply WL.opG; (focus (apply SYG.yes; (exact want_none rfl); ((first | ((first | apply SY.move | apply SY.assign | apply SY.lss) <;> (exact oD)) | (apply SY.len; (exact oD); (first | exact len_K | exact len_A | exact len_nil); (first | exact uD | exact elC.unt)) | fail); all_goals infer_instance))); dsimp only [setD, z0, z1]) | (apply WC.condD; (exact oD); (all_goals intro h); (all_goals try (exfalso; first | omega | contradiction))) | refine WC.exit ?_ | refine WC.block ?_)); all_goals (first | refine WC.id ?_ | refine WL.id ?_ | refine WDs.id ?_ | ((repeat clear hK); (repeat clear Kx))))
        (refine WC.loopU (X := Nat × Value) (fun x => [(6, dX x.2), (27, dI (x.1 : Int)), (8, dA), (28, dA), (29, dA), (30, dA), (31, dA), (32, dA), (33, dA), (34, dA)]) (fun x => (hRowK x.2 37 2 RV ((ss.take x.1).flatten) :: hp)) (fun x => ss.length - x.1) (fun x => x.1 ≤ ss.length) (0, vg) ?start ?frame0 ?objs0 ?round)
        case start => simp
        case frame0 => ((try dsimp only [upds, z0, z1]); repeat (first | exact LeF.nil | refine LeF.cons (by first | with_reducible exact Dat.le_any _ | with_reducible exact Dat.le_refl _ | exact le_ii (by omega) | exact Dat.le_nil | exact Dat.le_nilK (by decide) | assumption | exact Dat.le_refl _ | exact le_eq (by simp)) ?_))
        case objs0 => rfl
        case round =>
          rintro ⟨j, u⟩ q1
          dsimp only [upds, z0, z1]
          simp only at q1
          have q2 := hle j
          have q3 : ∀ (hj : j < ss.length), (ss.take j).flatten.length + ss[j].length ≤ 1000 := fun hj => by
            have h7 := hle (j + 1)
            rw [hstep j hj, List.length_append] at h7
            omega
          ((repeat' (first | (apply WL.opG; (focus (apply SYG.yes; (exact want_none rfl); (first | (apply SY.move <;> (exact oD)) | (apply SY.assign <;> (exact oD)) | (apply SY.load; (exact tD); (exact OpD.t rfl))))); dsimp only [setD, z0, z1]) | refine WL.nil ?_ | refine WC.seqK fun Kx hK => ?_ | (refine hK _ _ ?_; clear hK) | (refine Kont.skip ?_; clear hK) | refine WC.region ?_ |  (apply WL.appK; exact elV; exact OpD.t rfl; exact OpD.t rfl; decide; (have := q3 (by omega); omega); (intro _; dsimp only [setD, z0, z1]); all_goals (try infer_instance)) | (apply WL.opG; (focus (apply SYG.yes; (exact want_none rfl); ((first | ((first | apply SY.move | apply SY.assign | apply SY.lss) <;> (exact oD)) | ((first | apply SY.add) <;> first | exact oD | omega) | (apply SY.ix; (first | exact eD | exact elC); (exact oD); (exact oD); (first | assumption | omega)) | fail); all_goals infer_instance))); dsimp only [setD, z0, z1]) | (apply WC.condD; (exact oD); (all_goals intro h); (all_goals try (exfalso; first | omega | contradiction))) | refine WC.skip ?_ | refine WC.ret ?_ | refine WC.exit ?_ | refine WC.block ?_ | refine ThenD.n ?_)); all_goals (first | refine WC.id ?_ | refine WL.id ?_ | refine WDs.id ?_ | ((repeat clear hK); (repeat clear Kx))))
          · (refine ⟨(j + 1, _) , ?_, by first | omega | (simp only; omega), by ((try simp only);  (rw [hstep j (by omega)])), ?_⟩; rotate_left; ((try dsimp only [upds, z0, z1]); repeat (first | exact LeF.nil | refine LeF.cons (by first | with_reducible exact Dat.le_any _ | with_reducible exact Dat.le_refl _ | exact le_ii (by omega) | exact Dat.le_nil | exact Dat.le_nilK (by decide) | assumption | exact Dat.le_refl _ | exact le_eq (by simp)) ?_)); (try dsimp only))
            omega
          · exact ⟨trivial, _, [_], rfl, rfl, u, rfl, by rw [List.take_of_length_le (by omega)]⟩
theorem flat_len {l : Cx} (h : ∀ s ∈ l, s.length ≤ 8) : l.flatten.length ≤ 8 * l.length := by
  induction l with
  | nil => simp
  | cons s l ih =>
    have h1 := ih fun x hx => h x (List.mem_cons_of_mem _ hx)
    have h2 := h s (by simp)
    rw [List.flatten_cons, List.length_append, List.length_cons]
    omega
set_option maxHeartbeats 4000000 in
theorem vertices0_p (l : Cx) (h8 : ∀ s ∈ l, s.length ≤ 8) (hl : l.length ≤ 100) : Fn Tryz.prog 82 [dS Simps l] (dS Verts (ptsC l)) := by
  have hfl := flat_len h8
  (refine Fn.intro1 Tryz.func82 rfl rfl ?_; simp only [Tryz.ntmps82, List.length_cons, List.length_nil, Nat.reduceAdd, Nat.reduceSub, List.replicate_succ, List.replicate_zero, List.cons_append, List.nil_append])
  ((repeat' (first | (apply WL.opG; (focus (apply SYG.yes; (exact want_none rfl); (first | (apply SY.move <;> (exact oD)) | (apply SY.assign <;> (exact oD))))); dsimp only [setD, z0, z1]) | refine WL.nil ?_ | refine WC.seqK fun Kx hK => ?_ | (refine hK _ _ ?_; clear hK) | refine WC.region ?_ |  (refine WL.callC (hp1 := []) (caps := []) (concat_o l (by omega)) Tryz.call103 OpD.f (ArgsD.cons (OpD.t rfl) ArgsD.nil) ?_; rintro d' hp2 ⟨vc, rfl, rfl⟩; dsimp only [setD, z0, z1, List.cons_append, List.nil_append]) |  (refine WL.sortVG Tryz.call146 M.vtx_x (OpD.t rfl) (by omega) ?_; intro ys hperm hsort; dsimp only [setD, z0, z1]) |  (refine WL.inRow (compact_k ys vc hsort (by rw [hperm.length_eq]; omega)) Tryz.call71 ?_ ?_; (exact aD); intro vd zs hzs; dsimp only [setD, z0, z1]) | refine WC.ret ?_)); all_goals (first | refine WC.id ?_ | refine WL.id ?_ | refine WDs.id ?_ | ((repeat clear hK); (repeat clear Kx))))
  all_goals
    have hz : zs = ptsC l := asc_ext hzs.1 (ptsC_asc l) fun u => by rw [hzs.2, hperm.mem_iff, ptsC_mem, List.mem_flatten]
    subst hz
    (refine ⟨trivial, _, rfl, ?_⟩; (first | exact fD | refine FinD.i ?_ | refine FinD.b ?_ | refine FinD.rowKE (.head _) ?_ | refine FinD.rowE (.head _) ?_ | refine FinD.nilKE (by decide) ?_ | refine FinD.nilE ?_ | refine FinD.s ?_))
end Go.Proofs.YtkedmlandjlogaaGreat
