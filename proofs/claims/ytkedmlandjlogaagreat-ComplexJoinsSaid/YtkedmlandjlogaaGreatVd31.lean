/-
  Part 31 of the texts that the claims of this seat lean on: walks of the program's functions by contracts over symbolic frames, and plain laws of what they compute. No condition.
-/
import Derived.Test.YtkedmlandjlogaaGreatVd6
import Derived.Test.YtkedmlandjlogaaGreatVd8
import Derived.Test.YtkedmlandjlogaaGreatVd10
import Derived.Test.YtkedmlandjlogaaGreatVd30
set_option linter.unusedVariables false
set_option linter.unusedSimpArgs false
set_option linter.unusedSectionVars false
namespace Go.Proofs.YtkedmlandjlogaaGreat
open Go.RowKit
set_option linter.unusedSimpArgs false

set_option maxHeartbeats 2000000
set_option maxRecDepth 100000
theorem WL.storeF4 {P : Program} {ops : Array Oper} {hp : List HObj} {fr : List Dat} {d : Dat} {Q : Post} {rest : List Oper} {ty : TypeId} {ps : String} {af : Array Edge} {x : Operand} {t b n : Nat} {T T2 : TypeId} {agg : Bool} {d0 : Dat} {o1 o2 o3 : HObj} (hT : TyI P T n agg) (hp0 : fr[t]? = some (dX (.pointer (some ⟨b, 0, none⟩)))) (hx : OpD fr x d) (hs : d.Shape n agg)
    (h : WL P ops Q rest (fr.set t (dP n agg d)) (o1 :: o2 :: o3 :: hp)) : WL P ops Q ({ dst := none, op := .store T (.tmp t) x, type := ty, pos := ps, after := af, guard := none } :: rest) fr (o1 :: o2 :: o3 :: hCell b T2 n agg d0 :: hp) :=
  WL.perm (((List.Perm.cons o1 ((List.Perm.swap _ _ _).cons _ |>.trans (List.Perm.swap _ _ _)))).trans (List.Perm.swap _ _ _)) (WL.storeF hT hp0 hx hs h)
theorem point27_p (c : Int) : Fn Tryz.prog 76 [dI c] (dS RV (c, 0)) := by
  -- @kinds all
  refine Fn.introC1 tyV Tryz.func76 rfl rfl ?_
  simp only [Tryz.ntmps76, List.length_cons, List.length_nil, Nat.reduceAdd, Nat.reduceSub, List.replicate_succ, List.replicate_zero, List.cons_append, List.nil_append]
  ((repeat' (first | (apply WL.opG; (focus (apply SYG.yes; (exact want_none rfl); (first | (apply SY.move <;> (exact oD))))); dsimp only [setD, z0, z1]) | refine WL.nil ?_ | refine WC.seqK fun Kx hK => ?_ | (refine hK _ _ ?_; clear hK) | refine WC.region ?_ | (apply WL.alloc; (first | exact tzV | exact tzC); (first | exact shape_X rfl | exact shape_XV | exact shape_C0 rfl); (intro _; dsimp only [setD, z0, z1])) | (apply WL.storeF; (exact tD); rfl; (exact oD); (exact hD); dsimp only [setD, z0, z1]) | (apply WL.opG; (focus (apply SYG.yes; (exact want_none rfl); ((first | exact yBuild | fail); all_goals infer_instance))); dsimp only [setD, z0, z1]) | refine WC.ret ?_)); all_goals (first | refine WC.id ?_ | refine WL.id ?_ | refine WDs.id ?_ | ((repeat clear hK); (repeat clear Kx))))
  all_goals (refine ⟨trivial, _, rfl, ?_⟩; (first | exact fD | refine FinD.i ?_ | refine FinD.b ?_ | refine FinD.rowKE (.head _) ?_ | refine FinD.rowE (.head _) ?_ | refine FinD.nilKE (by decide) ?_ | refine FinD.nilE ?_ | refine FinD.s ?_))
abbrev va : Vx := (0, 0)
abbrev vb : Vx := (1, 0)
abbrev vc : Vx := (2, 0)
abbrev vd : Vx := (3, 0)
abbrev exC : Cx := [[va, vb, vc], [vc, vd]]
theorem a_of : ofP [[vc, vd], [vb], [va, vb, vc], [vc, vd]] = (exC, 0) := by decide
theorem a_simp : simplC exC 2 = ([[va, vb], [va, vc], [vb, vc], [vc, vd]], 0) := by decide
theorem a_chk : chkC exC = 0 := by decide
theorem a_dim : dimC exC = 2 := by decide
theorem a_pure : sizeP exC = false := by decide
theorem a_euler : eulC exC = (1, 0) := by decide
theorem a_star : starC exC [vc] = (exC, 0) := by decide
theorem a_link : linkC exC [vc] = ([[va, vb], [vd]], 0) := by decide
theorem a_other : linkC exC [va] = ([[vb, vc]], 0) := by decide
theorem a_bnd : bndP [[va, vb, vc], [vb, vc, vd]] = ([[va, vb], [va, vc], [vb, vd], [vc, vd]], 0) := by decide
theorem a_bnd2 : bndP exC = ([], 15) := by decide
set_option maxHeartbeats 16000000 in
theorem awake27_p : Fn Tryz.prog 17 [] (dB true) := by
  have c1 := of27_p [[vc, vd], [vb], [va, vb, vc], [vc, vd]]
  rw [a_of] at c1
  have c2 := simplices27_p exC 2
  rw [a_simp] at c2
  have c3 := dimensionX_p exC
  rw [a_chk, a_dim, a_pure, if_neg (by decide), if_neg (by decide)] at c3
  have c4 := euler27_p exC
  rw [a_euler] at c4
  have c5 := star27_p exC [vc]
  rw [a_star] at c5
  have c6 := link27_p exC [vc]
  rw [a_link] at c6
  have c7 := link27_p exC [va]
  rw [a_other] at c7
  have c8 := boundary27_p [[va, vb, vc], [vb, vc, vd]]
  rw [a_bnd] at c8
  have c9 := boundary27_p exC
  rw [a_bnd2] at c9
  have s : ∀ l : Cx, Fn Tryz.prog 77 [dS Simps l, dS Simps l] (dB true) := fun l => by
    have := sameAll_c l l
    rwa [decide_eq_true rfl] at this
  have s2 : ∀ l : Cx, Fn Tryz.prog 21 [dS Cpx l, dS Cpx l] (dB true) := fun l => by
    have := sameC_c l l
    rwa [decide_eq_true rfl] at this
  refine Fn.intro1 Tryz.func17 rfl rfl ?_
  show WC _ _ _ (List.replicate 206 (dX undef)) []
  simp only [List.replicate_succ, List.replicate_zero]
  ((repeat' (first | (apply WL.opG; (focus (apply SYG.yes; (exact want_none rfl); (first | (apply SY.move <;> (exact oD)) | (apply SY.assign <;> (exact oD)) | (apply SY.load; (exact tD); (exact OpD.t rfl))))); dsimp only [setD, z0, z1]) | refine WL.nil ?_ | refine WC.seqK fun Kx hK => ?_ | (refine hK _ _ ?_; clear hK) | refine WC.region ?_ |  (apply WL.storeF4; exact tyV; rfl; exact OpD.t rfl; exact shape_V; dsimp only [setD, z0, z1]) | (apply WL.alloc; (first | exact tzV | exact tzC); (first | exact shape_X rfl | exact shape_XV | exact shape_C0 rfl); (intro _; dsimp only [setD, z0, z1])) | (apply WL.storeF; (exact tD); rfl; (exact oD); (exact hD); dsimp only [setD, z0, z1]) | (apply WL.storeF2; (exact tD); rfl; (exact oD); (exact hD); dsimp only [setD, z0, z1]) | (apply WL.storeF3; (exact tD); rfl; (exact oD); (exact hD); dsimp only [setD, z0, z1]) | (apply WL.opG; (focus (first | (apply SYG.no; first | exact want_notT rfl rfl rfl (by with_reducible rfl) | exact want_notF rfl rfl rfl (by with_reducible rfl)) | (apply SYG.yes; (first | exact want_none rfl | exact want_yes rfl rfl rfl (by with_reducible rfl)); ((first | (apply SY.call (point27_p _) Tryz.call76; (exact aD)) | (apply SY.call (c1) Tryz.call25; (exact aD)) | (apply SY.call (c2) Tryz.call74; (exact aD)) | (apply SY.call (c3) Tryz.call32; (exact aD)) | (apply SY.call (c4) Tryz.call19; (exact aD)) | (apply SY.call (c5) Tryz.call39; (exact aD)) | (apply SY.call (c6) Tryz.call22; exact ArgsD.cons (OpD.t rfl) (ArgsD.cons (OpD.t rfl) (ArgsD.nil))) | (apply SY.call (c7) Tryz.call22; exact ArgsD.cons (OpD.t rfl) (ArgsD.cons (OpD.t rfl) (ArgsD.nil))) | (apply SY.call (c8) Tryz.call64; exact ArgsD.cons (OpD.t rfl) (ArgsD.nil)) | (apply SY.call (c9) Tryz.call64; exact ArgsD.cons (OpD.t rfl) (ArgsD.nil)) | (apply SY.call (s _) Tryz.call77; (exact aD)) | (apply SY.call (s2 _) Tryz.call21; (exact aD)) | exact yMove | exact yEql | exact yNeq | exact yNot | exact yAdd | exact yLoad | exact yFieldaddr | exact yBuild | exact yBuildslice | exact yPick | exact yExtract | fail); all_goals infer_instance)))); dsimp only [setD, z0, z1]) | ((first | refine WL.caseP rfl rfl rfl (fun h => ?_) (fun h => ?_) | refine WL.caseN rfl rfl rfl (fun h => ?_) (fun h => ?_) | refine WL.caseB rfl rfl rfl (fun h => ?_) (fun h => ?_)) <;> (first | (exfalso; first | omega | contradiction) | (dsimp only [z0, z1]))) | (apply WC.condN; (exact oD); (all_goals intro h); (all_goals try (exfalso; first | omega | contradiction))) | (apply WC.condNB; (exact oD); (all_goals intro h); (all_goals try (exfalso; first | omega | contradiction))) | refine WC.skip ?_ | refine WC.ret ?_)); all_goals (first | refine WC.id ?_ | refine WL.id ?_ | refine WDs.id ?_ | ((repeat clear hK); (repeat clear Kx))))
  (refine ⟨trivial, _, rfl, ?_⟩; (first | exact fD | refine FinD.i ?_ | refine FinD.b ?_ | refine FinD.rowKE (.head _) ?_ | refine FinD.rowE (.head _) ?_ | refine FinD.nilKE (by decide) ?_ | refine FinD.nilE ?_ | refine FinD.s ?_))
end Go.Proofs.YtkedmlandjlogaaGreat
namespace Go.Proofs.YtkedmlandjlogaaGreat
open Go.RowKit
set_option linter.unusedSimpArgs false

set_option maxHeartbeats 2000000
set_option maxRecDepth 100000
def chooseN : Nat → Nat → Nat
  | _, 0 => 1
  | 0, _ + 1 => 0
  | n + 1, k + 1 => chooseN n k + chooseN n (k + 1)
theorem subs_choose : ∀ (s : List Vx) (k : Nat), (subsV k s).length = chooseN s.length k
  | s, 0 => by rw [subsV_zero]; cases s <;> rfl
  | [], k + 1 => by rw [subsV_short _ _ (by simp)]; rfl
  | v :: s, k + 1 => by rw [subsV_next, subs_choose s k, subs_choose s (k + 1)]; rfl
theorem choose_le : ∀ n ≤ 8, ∀ k ≤ 8, chooseN n k ≤ 70 := by decide
theorem subs_le {s : List Vx} (h : s.length ≤ 8) (k : Nat) : (subsV k s).length ≤ 70 := by
  by_cases hk : k ≤ 8
  · rw [subs_choose]; exact choose_le _ h _ hk
  · rw [subsV_short k s (by omega)]; simp
theorem all_le70 {l : Cx} (h : ∀ s ∈ l, s.length ≤ 8) (k : Nat) : (allC l k).length ≤ 70 * l.length := by
  have h1 : (allC l k).length ≤ (fcsC l k).length := List.Nodup.length_le_of_subset (allC_asc l _).nodup fun x hx => fcsC_mem.2 hx
  have h2 : ∀ l : Cx, (∀ s ∈ l, s.length ≤ 8) → (fcsC l k).length ≤ 70 * l.length := by
    intro l
    induction l with
    | nil => intro _; simp [fcsC]
    | cons s l ih =>
      intro h
      have e : fcsC (s :: l) k = subsV k s ++ fcsC l k := by unfold fcsC; simp
      rw [e, List.length_append, List.length_cons]
      have := subs_le (h s (by simp)) k
      have := ih fun x hx => h x (by simp [hx])
      omega
  have := h2 l h
  omega
theorem max_len (l : Cx) : (maxC l).length ≤ l.length := List.Nodup.length_le_of_subset (maxC_asc l).nodup fun _ hx => (maxC_mem.1 hx).1
theorem few_len {l : Cx} (h : fewAllV l = true) : l.length ≤ 30 := by
  unfold fewAllV at h
  simp only [Bool.and_eq_true, decide_eq_true_eq] at h
  exact h.1
theorem sameC_self (l : Cx) : Fn Tryz.prog 21 [dS Cpx l, dS Cpx l] (dB true) := by
  have := sameC_c l l
  rwa [decide_eq_true rfl] at this
end Go.Proofs.YtkedmlandjlogaaGreat
namespace Go.Proofs.YtkedmlandjlogaaGreat
theorem hasC_iff {l : Cx} {s : List Vx} : hasC' l s = true ↔ ∃ f ∈ l, insideV s f = true := by unfold hasC'; rw [List.any_eq_true]
theorem chk_len {s : List Vx} (h : chkV s = 0) : 0 < s.length ∧ s.length ≤ 8 := by
  obtain ⟨h1, h2, _⟩ := chkV_zero.1 h
  exact ⟨by omega, h2⟩
theorem inside_mem {a b : List Vx} : insideV a b = true ↔ ∀ x ∈ a, x ∈ b := by
  unfold insideV
  rw [List.all_eq_true]
  exact ⟨fun h x hx => of_decide_eq_true (h x hx), fun h x hx => decide_eq_true (h x hx)⟩
theorem all_iff {l : Cx} (hl : ∀ s ∈ l, Asc s) {k : Nat} {x : List Vx} : x ∈ allC l k ↔ Asc x ∧ x.length = k ∧ hasC' l x = true := by
  rw [allC_mem, hasC_iff]
  constructor
  · rintro ⟨f, hf, hx⟩
    obtain ⟨h1, h2⟩ := (subsV_mem _ _ _).1 hx
    have ha : Asc x := List.Pairwise.sublist h1 (hl f hf)
    exact ⟨ha, h2, f, hf, (sub_inside ha (hl f hf)).1 h1⟩
  · rintro ⟨ha, h2, f, hf, h⟩
    exact ⟨f, hf, (subsV_mem _ _ _).2 ⟨(sub_inside ha (hl f hf)).2 h, h2⟩⟩
theorem all_few {l : Cx} {k B : Nat} (h : ∀ s ∈ l, (subsV k s).length ≤ B) : (allC l k).length ≤ B * l.length := by
  have h1 : (allC l k).length ≤ (fcsC l k).length := List.Nodup.length_le_of_subset (allC_asc l _).nodup fun x hx => fcsC_mem.2 hx
  have h2 : ∀ l : Cx, (∀ s ∈ l, (subsV k s).length ≤ B) → (fcsC l k).length ≤ B * l.length := by
    intro l
    induction l with
    | nil => intro _; simp [fcsC]
    | cons s l ih =>
      intro h
      have h3 := ih fun x hx => h x (List.mem_cons_of_mem _ hx)
      have h4 := h s (by simp)
      have h5 : (fcsC (s :: l) k).length = (subsV k s).length + (fcsC l k).length := by unfold fcsC; simp
      rw [h5, List.length_cons, Nat.mul_add, Nat.mul_one]
      omega
  exact Nat.le_trans h1 (h2 l h)
theorem choose_5 : ∀ n ≤ 5, ∀ k ≤ 5, chooseN n k ≤ 10 := by decide
structure Gd (l : Cx) : Prop where
  good : GoodX l
  few : l.length ≤ 30
  five : ∀ s ∈ l, s.length ≤ 5
theorem Gd.all {l : Cx} (h : Gd l) (k : Nat) : (allC l k).length ≤ 300 := by
  have := all_few (l := l) (k := k) (B := 10) fun s hs => by
    have h5 := h.five s hs
    by_cases hk : k ≤ 5
    · rw [subs_choose]; exact choose_5 _ h5 _ hk
    · rw [subsV_short k s (by omega)]; simp
  have := h.few
  omega
theorem Gd.zero {l : Cx} (h : Gd l) : chkC l = 0 := goodX_iff.2 h.good
theorem Gd.none {l : Cx} (h : Gd l) {k : Nat} (hk : 5 < k) : allC l k = [] := by
  apply List.eq_nil_iff_forall_not_mem.2
  intro x hx
  obtain ⟨f, hf, hx⟩ := allC_mem.1 hx
  rw [subsV_short k f (by have := h.five f hf; omega)] at hx
  simp at hx
def upC (l : Cx) : Nat → Cx
  | 0 => []
  | k + 1 => upC l k ++ allC l (k + 1)
theorem upC_mem {l : Cx} {x : List Vx} : ∀ {k : Nat}, x ∈ upC l k ↔ ∃ j, 1 ≤ j ∧ j ≤ k ∧ x ∈ allC l j
  | 0 => by
    constructor
    · intro h; simp [upC] at h
    · rintro ⟨j, h1, h2, _⟩; omega
  | k + 1 => by
    unfold upC
    rw [List.mem_append, upC_mem]
    constructor
    · rintro (⟨j, h1, h2, h3⟩ | h)
      · exact ⟨j, h1, by omega, h3⟩
      · exact ⟨k + 1, by omega, Nat.le_refl _, h⟩
    · rintro ⟨j, h1, h2, h3⟩
      by_cases hj : j = k + 1
      · subst hj; exact .inr h3
      · exact .inl ⟨j, h1, by omega, h3⟩
theorem eul_is {l : Cx} (h : GoodX l) (hl : ∀ k, (allC l (k + 1)).length ≤ 4096) : eulC l = (eulS l 8, 0) := by
  unfold eulC
  rw [goodX_iff.2 h, if_neg (by omega : ¬ (0 : Int) ≠ 0), if_neg]
  intro hc
  rw [List.any_eq_true] at hc
  obtain ⟨k, _, h2⟩ := hc
  have := of_decide_eq_true h2
  have := hl k
  omega
theorem Gd.eul {l : Cx} (h : Gd l) : eulC l = (eulS l 8, 0) := eul_is h.good fun k => Nat.le_trans (h.all _) (by decide)
end Go.Proofs.YtkedmlandjlogaaGreat
namespace Go.Proofs.YtkedmlandjlogaaGreat
open Go.RowKit
set_option linter.unusedSimpArgs false

set_option maxHeartbeats 2000000
set_option maxRecDepth 100000
abbrev Cpxs : Rel (List Cx) := ArrK 1 Cpx
theorem elC : ElT Tryz.prog 47 24 1 (.agg #[.slice none 0 0]) 24 true := ⟨Tryz.underlying47, by kernel_rfl, Tryz.isAgg24, rfl⟩
def goodB (l : Cx) : Bool := fewAllV l && (decide (chkC l = 0) && decide (dimC l ≤ 4))
theorem allG_snoc {α : Type} {l : List α} {p : α → Bool} {k : Nat} (h : k < l.length) : (l.take (k + 1)).all p = ((l.take k).all p && p l[k]) := by rw [take_snoc' h, List.all_append]; simp
theorem all_not {α : Type} {l : List α} {p : α → Bool} {k : Nat} (h : k < l.length) (hp : p l[k] = false) : l.all p = false := by
  rw [List.all_eq_false]
  exact ⟨l[k], List.getElem_mem h, by rw [hp]; exact Bool.false_ne_true⟩
theorem gd_of {l : Cx} (h : goodB l = true) : Gd l := by
  unfold goodB at h
  rw [Bool.and_eq_true, Bool.and_eq_true] at h
  obtain ⟨h1, h2, h3⟩ := h
  have h3 := of_decide_eq_true h3
  refine ⟨goodX_iff.1 (of_decide_eq_true h2), few_len h1, fun s hs => ?_⟩
  have := (most_max l).1 s hs
  have := most_dim l
  omega
set_option maxHeartbeats 4000000 in
theorem good27_p (ls : List Cx) : Fn Tryz.prog 16 [dS Cpxs ls] (dB (ls.all goodB)) := by
  (refine Fn.intro1 Tryz.func16 rfl rfl ?_; simp only [Tryz.ntmps16, List.length_cons, List.length_nil, Nat.reduceAdd, Nat.reduceSub, List.replicate_succ, List.replicate_zero, List.cons_append, List.nil_append])
  (first | refine WC.know (t := 0) rfl le_K fun hl0 => ?_ | refine WC.know (t := 0) rfl le_A fun hl0 => ?_ | refine WC.know (t := 0) rfl le_C fun hl0 => ?_); simp only [maxLen] at hl0
  ((repeat' (first | (apply WL.opG; (focus (apply SYG.yes; (exact want_none rfl); (first | (apply SY.move <;> (exact oD)) | (apply SY.assign <;> (exact oD)) | (apply SY.load; (exact tD); (exact OpD.t rfl))))); dsimp only [setD, z0, z1]) | refine WL.nil ?_ | refine WC.seqK fun Kx hK => ?_ | (refine hK _ _ ?_; clear hK) | refine WC.region ?_ | (apply WL.opG; (focus (first | (apply SYG.no; first | exact want_notT rfl rfl rfl (by with_reducible rfl) | exact want_notF rfl rfl rfl (by with_reducible rfl)) | (apply SYG.yes; (first | exact want_none rfl | exact want_yes rfl rfl rfl (by with_reducible rfl)); ((first | (apply SY.len; (exact oD); (first | exact len_K | exact len_A | exact len_nil); (first | exact uD | exact elC.unt)) | fail); all_goals infer_instance)))); dsimp only [setD, z0, z1]) | refine WC.block ?_)); all_goals (first | refine WC.id ?_ | refine WL.id ?_ | refine WDs.id ?_ | ((repeat clear hK); (repeat clear Kx))))
  (refine WC.loopU (X := Nat) (fun k => [(9, dI (k : Int)), (2, dA), (4, dA), (5, dA), (6, dA), (10, dA), (11, dA), (12, dA), (13, dA), (14, dA), (15, dA), (16, dA), (17, dA), (18, dA), (19, dA), (20, dA), (21, dA), (22, dA), (23, dA), (24, dA), (25, dA), (26, dA), (27, dA), (28, dA), (29, dA), (30, dA)]) (fun k => []) (fun k => ls.length - k) (fun k => k ≤ ls.length ∧ (ls.take k).all goodB = true) 0 ?start ?frame0 ?objs0 ?round)
  case start => exact ⟨Nat.zero_le _, rfl⟩
  case frame0 => ((try dsimp only [upds, z0, z1]); repeat (first | exact LeF.nil | refine LeF.cons (by first | with_reducible exact Dat.le_any _ | with_reducible exact Dat.le_refl _ | exact le_ii (by omega) | exact Dat.le_nil | exact Dat.le_nilK (by decide) | assumption | exact Dat.le_refl _ | exact le_eq (by simp)) ?_))
  case objs0 => rfl
  case round =>
    rintro k ⟨h1, h2⟩
    dsimp only [upds, z0, z1]
    ((repeat' (first | (apply WL.opG; (focus (apply SYG.yes; (exact want_none rfl); (first | (apply SY.move <;> (exact oD)) | (apply SY.assign <;> (exact oD)) | (apply SY.load; (exact tD); (exact OpD.t rfl))))); dsimp only [setD, z0, z1]) | refine WL.nil ?_ | refine WC.seqK fun Kx hK => ?_ | (refine hK _ _ ?_; clear hK) | (refine Kont.skip ?_; clear hK) | refine WC.region ?_ | (apply WL.alloc; (first | exact tzV | exact tzC); (first | exact shape_X rfl | exact shape_XV | exact shape_C0 rfl); (intro _; dsimp only [setD, z0, z1])) | (apply WL.storeF; (exact tD); rfl; (exact oD); (exact hD); dsimp only [setD, z0, z1]) | (apply WL.opG; (focus (first | (apply SYG.no; first | exact want_notT rfl rfl rfl (by with_reducible rfl) | exact want_notF rfl rfl rfl (by with_reducible rfl)) | (apply SYG.yes; (first | exact want_none rfl | exact want_yes rfl rfl rfl (by with_reducible rfl)); ((first | (apply SY.call (size_c _) Tryz.call75; (exact aD)) | (apply SY.call (fewC_c _) Tryz.call42; (exact aD)) | (apply SY.call (chk27_c _) Tryz.call28; (exact aD)) | ((first | apply SY.move | apply SY.assign | apply SY.lss | apply SY.gtr | apply SY.neq | apply SY.not) <;> (exact oD)) | ((first | apply SY.add) <;> first | exact oD | omega) | (apply SY.load; (exact tD); (exact oD)) | (apply SY.ixK; (first | exact eD | exact elC); (exact oD); (exact oD); (first | assumption | omega)) | (apply SY.pickT; (exact oD); (with_reducible rfl); (exact oD)) | (apply SY.pickF; (exact oD); (with_reducible rfl); (exact oD)) | (apply SY.extract; (exact oD); rfl) | fail); all_goals infer_instance)))); dsimp only [setD, z0, z1]) | ((first | refine WL.caseP rfl rfl rfl (fun h => ?_) (fun h => ?_) | refine WL.caseN rfl rfl rfl (fun h => ?_) (fun h => ?_) | refine WL.caseB rfl rfl rfl (fun h => ?_) (fun h => ?_)) <;> (first | (exfalso; first | omega | contradiction) | (dsimp only [z0, z1]))) | (apply WC.condT; (exact oD); (with_reducible rfl)) | (apply WC.condD; (exact oD); (all_goals intro h); (all_goals try (exfalso; first | omega | contradiction))) | refine WC.skip ?_ | refine WC.ret ?_ | refine WC.exit ?_ | refine WC.block ?_ | refine ThenD.n ?_ | refine ThenD.r ?_ | refine InBlockD.r ?_)); all_goals (first | refine WC.id ?_ | refine WL.id ?_ | refine WDs.id ?_ | ((repeat clear hK); (repeat clear Kx))))
    · have hk : k < ls.length := by omega
      have hg : goodB ls[k] = false := by unfold goodB; simp_all
      rw [all_not hk hg]; (refine ⟨trivial, _, rfl, ?_⟩; (first | exact fD | refine FinD.i ?_ | refine FinD.b ?_ | refine FinD.rowKE (.head _) ?_ | refine FinD.rowE (.head _) ?_ | refine FinD.nilKE (by decide) ?_ | refine FinD.nilE ?_ | refine FinD.s ?_))
    · have hk : k < ls.length := by omega
      have hg : goodB ls[k] = false := by unfold goodB; simp_all
      rw [all_not hk hg]; (refine ⟨trivial, _, rfl, ?_⟩; (first | exact fD | refine FinD.i ?_ | refine FinD.b ?_ | refine FinD.rowKE (.head _) ?_ | refine FinD.rowE (.head _) ?_ | refine FinD.nilKE (by decide) ?_ | refine FinD.nilE ?_ | refine FinD.s ?_))
    · have hk : k < ls.length := by omega
      have hg : goodB ls[k] = false := by
        unfold goodB
        rw [decide_eq_false (show ¬ dimC ls[k] ≤ 4 by omega), Bool.and_false, Bool.and_false]
      rw [all_not hk hg]; (refine ⟨trivial, _, rfl, ?_⟩; (first | exact fD | refine FinD.i ?_ | refine FinD.b ?_ | refine FinD.rowKE (.head _) ?_ | refine FinD.rowE (.head _) ?_ | refine FinD.nilKE (by decide) ?_ | refine FinD.nilE ?_ | refine FinD.s ?_))
    · have hk : k < ls.length := by omega
      rename_i hq1 hq2 hq3
      have hg : goodB ls[k] = true := by
        unfold goodB
        rw [decide_eq_true (show dimC ls[k] ≤ 4 by omega), Bool.and_true]
        simp_all
      (refine ⟨k + 1, ?_, by first | omega | (simp only; omega), rfl, ?_⟩; rotate_left; ((try dsimp only [upds, z0, z1]); repeat (first | exact LeF.nil | refine LeF.cons (by first | with_reducible exact Dat.le_any _ | with_reducible exact Dat.le_refl _ | exact le_ii (by omega) | exact Dat.le_nil | exact Dat.le_nilK (by decide) | assumption | exact Dat.le_refl _ | exact le_eq (by simp)) ?_)); (try dsimp only))
      exact ⟨by omega, by rw [allG_snoc hk, h2, hg]; rfl⟩
    · rw [List.take_of_length_le (by omega)] at h2
      rw [h2]; (refine ⟨trivial, _, rfl, ?_⟩; (first | exact fD | refine FinD.i ?_ | refine FinD.b ?_ | refine FinD.rowKE (.head _) ?_ | refine FinD.rowE (.head _) ?_ | refine FinD.nilKE (by decide) ?_ | refine FinD.nilE ?_ | refine FinD.s ?_))
end Go.Proofs.YtkedmlandjlogaaGreat
namespace Go.Proofs.YtkedmlandjlogaaGreat
def sgnC (s : List Vx) : Int := 2 * ((s.length : Int).tmod 2) - 1
def sumC (l : Cx) : Int := (l.map sgnC).sum
theorem sum_same {l : Cx} {k : Nat} (h : ∀ s ∈ l, s.length = k) : sumC l = (2 * ((k : Int) % 2) - 1) * l.length := by
  induction l with
  | nil => simp [sumC]
  | cons s l ih =>
    have h1 := ih fun x hx => h x (List.mem_cons_of_mem _ hx)
    have h2 := h s (by simp)
    have h3 : sumC (s :: l) = sgnC s + sumC l := by unfold sumC; simp
    have h4 : sgnC s = 2 * ((k : Int) % 2) - 1 := by unfold sgnC; rw [h2, Int.tmod_eq_emod_of_nonneg (by omega)]
    rw [h3, h1, h4, List.length_cons, Int.natCast_add, Int.mul_add]
    omega
theorem sum_up (l : Cx) : ∀ k, sumC (upC l k) = eulS l k
  | 0 => rfl
  | k + 1 => by
    have h1 := sum_up l k
    have h2 : sumC (allC l (k + 1)) = (2 * (((k + 1 : Nat) : Int) % 2) - 1) * (allC l (k + 1)).length := sum_same fun s hs => by
      obtain ⟨f, _, hx⟩ := allC_mem.1 hs
      exact ((subsV_mem _ _ _).1 hx).2
    have h3 : sumC (upC l (k + 1)) = sumC (upC l k) + sumC (allC l (k + 1)) := by
      show sumC (upC l k ++ allC l (k + 1)) = _
      unfold sumC; rw [List.map_append, List.sum_append]
    rw [h3, h1, h2]
    show _ = if (k + 1) % 2 = 1 then eulS l k + ((allC l (k + 1)).length : Int) else eulS l k - ((allC l (k + 1)).length : Int)
    by_cases h4 : (k + 1) % 2 = 1
    · have : ((k + 1 : Nat) : Int) % 2 = 1 := by omega
      rw [if_pos h4, this]; omega
    · have : ((k + 1 : Nat) : Int) % 2 = 0 := by omega
      rw [if_neg h4, this]; omega
theorem Gd.sum {l : Cx} (h : Gd l) : sumC (upC l 5) = eulS l 8 := by
  rw [sum_up]
  have h6 := h.none (k := 6) (by omega)
  have h7 := h.none (k := 7) (by omega)
  have h8 := h.none (k := 8) (by omega)
  have e : ∀ k, allC l (k + 1) = [] → eulS l (k + 1) = eulS l k := fun k hk => by
    show (if (k + 1) % 2 = 1 then eulS l k + ((allC l (k + 1)).length : Int) else eulS l k - ((allC l (k + 1)).length : Int)) = _
    rw [hk]; simp
  rw [e 7 h8, e 6 h7, e 5 h6]
end Go.Proofs.YtkedmlandjlogaaGreat
namespace Go.Proofs.YtkedmlandjlogaaGreat
def prodC (a b : Cx) : Cx := a.flatMap fun s => b.map fun t => allV s t
def ptsC (a : Cx) : List Vx := allV [] a.flatten
theorem ptsC_mem {a : Cx} {v : Vx} : v ∈ ptsC a ↔ ∃ s ∈ a, v ∈ s := by unfold ptsC; rw [mem_allV]; simp
theorem ptsC_asc (a : Cx) : Asc (ptsC a) := asc_allV (by simp [Asc])
theorem prodC_mem {a b : Cx} {x : List Vx} : x ∈ prodC a b ↔ ∃ s ∈ a, ∃ t ∈ b, x = allV s t := by
  unfold prodC
  rw [List.mem_flatMap]
  constructor
  · rintro ⟨s, hs, h⟩
    obtain ⟨t, ht, rfl⟩ := List.mem_map.1 h
    exact ⟨s, hs, t, ht, rfl⟩
  · rintro ⟨s, hs, t, ht, rfl⟩
    exact ⟨s, hs, List.mem_map_of_mem ht⟩
theorem prodC_snoc {a b : Cx} {k : Nat} (h : k < a.length) : prodC (a.take (k + 1)) b = prodC (a.take k) b ++ b.map fun t => allV a[k] t := by
  unfold prodC; rw [take_snoc' h, List.flatMap_append]; simp
theorem prodC_len (a b : Cx) : (prodC a b).length = a.length * b.length := by
  induction a with
  | nil => simp [prodC]
  | cons s a ih =>
    have : prodC (s :: a) b = (b.map fun t => allV s t) ++ prodC a b := rfl
    rw [this, List.length_append, ih, List.length_map, List.length_cons, Nat.succ_mul, Nat.add_comm]
def Apart (a b : Cx) : Prop := ∀ s ∈ a, ∀ t ∈ b, ∀ v ∈ s, v ∉ t
theorem apart_iff {a b : Cx} : ¬ 0 < (sharedV (ptsC a) (ptsC b) true).length ↔ Apart a b := by
  rw [List.length_pos_iff_exists_mem]
  constructor
  · intro h s hs t ht v v1 v2
    refine h ⟨v, ?_⟩
    unfold sharedV
    exact List.mem_filter.2 ⟨ptsC_mem.2 ⟨s, hs, v1⟩, by simpa using ptsC_mem.2 ⟨t, ht, v2⟩⟩
  · rintro h ⟨v, hv⟩
    unfold sharedV at hv
    obtain ⟨h1, h2⟩ := List.mem_filter.1 hv
    obtain ⟨s, hs, v1⟩ := ptsC_mem.1 h1
    obtain ⟨t, ht, v2⟩ := ptsC_mem.1 (by simpa using h2)
    exact h s hs t ht v v1 v2
theorem Apart.symm {a b : Cx} (h : Apart a b) : Apart b a := fun s hs t ht v v1 v2 => h t ht s hs v v2 v1
theorem inside_prod {a b : Cx} (h : Apart a b) {s s' t t' : List Vx} (hs : s ∈ a) (hs' : s' ∈ a) (ht : t ∈ b) (ht' : t' ∈ b) : insideV (allV s t) (allV s' t') = true ↔ insideV s s' = true ∧ insideV t t' = true := by
  rw [inside_mem, inside_mem, inside_mem]
  constructor
  · intro k
    refine ⟨fun x hx => ?_, fun x hx => ?_⟩
    · rcases mem_allV.1 (k x (mem_allV.2 (.inl hx))) with h1 | h1
      · exact h1
      · exact absurd h1 (h s hs t' ht' x hx)
    · rcases mem_allV.1 (k x (mem_allV.2 (.inr hx))) with h1 | h1
      · exact absurd hx (h s' hs' t ht x h1)
      · exact h1
  · rintro ⟨k1, k2⟩ x hx
    rcases mem_allV.1 hx with h1 | h1
    · exact mem_allV.2 (.inl (k1 x h1))
    · exact mem_allV.2 (.inr (k2 x h1))
theorem inside_anti {a : Cx} (ha : GoodX a) {s t : List Vx} (hs : s ∈ a) (ht : t ∈ a) (h : insideV s t = true) : s = t := by
  by_cases he : s = t
  · exact he
  · have := inside_lt (ha.asc s hs) (ha.asc t ht) h he
    have h2 : coveredC a s = true := coveredC_iff.2 ⟨t, ht, this, h⟩
    rw [ha.2.2.2 s hs] at h2; cases h2
theorem prod_top {a b : Cx} (ha : GoodX a) (hb : GoodX b) (h : Apart a b) : (prodC a b).filter (topC (prodC a b)) = prodC a b := by
  rw [List.filter_eq_self]
  intro x hx
  obtain ⟨s, hs, t, ht, rfl⟩ := prodC_mem.1 hx
  have h0 := (chk_len (ha.2.2.1 s hs)).1
  unfold topC
  rw [Bool.and_eq_true]
  refine ⟨decide_eq_true (Nat.lt_of_lt_of_le h0 (allV_len t s).1), ?_⟩
  cases hc : coveredC (prodC a b) (allV s t) with
  | false => rfl
  | true =>
    obtain ⟨y, hy, h1, h2⟩ := coveredC_iff.1 hc
    obtain ⟨s', hs', t', ht', rfl⟩ := prodC_mem.1 hy
    obtain ⟨k1, k2⟩ := (inside_prod h hs hs' ht ht').1 h2
    rw [inside_anti ha hs hs' k1, inside_anti hb ht ht' k2] at h1
    omega
theorem dim_len {a : Cx} {s : List Vx} (hs : s ∈ a) : (s.length : Int) ≤ dimC a + 1 := by
  have h1 := (most_max a).1 s hs
  have h2 := most_dim a
  omega
theorem prod_chk {a b : Cx} (ha : GoodX a) (hb : GoodX b) (hd : dimC a + dimC b + 2 ≤ 8) : ∀ x ∈ prodC a b, chkV x = 0 := fun x hx => by
  obtain ⟨s, hs, t, ht, rfl⟩ := prodC_mem.1 hx
  obtain ⟨h1, h2, h3, h4⟩ := chkV_zero.1 (ha.2.2.1 s hs)
  obtain ⟨k1, k2, k3, k4⟩ := chkV_zero.1 (hb.2.2.1 t ht)
  have d1 := dim_len hs
  have d2 := dim_len ht
  have l1 := allV_len t s
  refine chkV_zero.2 ⟨by omega, by omega, fun v hv => ?_, asc_allV h4⟩
  rcases mem_allV.1 hv with hv | hv
  · exact h3 v hv
  · exact k3 v hv
def joinP (a b : Cx) : Cx × Int := if twoC a b ≠ 0 then ([], twoC a b) else if a.length = 0 ∨ b.length = 0 then (maxC (a ++ b), 0) else if 0 < (sharedV (ptsC a) (ptsC b) true).length then ([], 7) else if 8 < dimC a + dimC b + 2 ∨ 4096 < a.length * b.length then ([], 5) else (maxC (prodC a b), 0)
def ofC (l : Cx) : Cx × Int := if 4096 < l.length then ([], 5) else if errC l ≠ 0 then ([], errC l) else limC (maxC l)
end Go.Proofs.YtkedmlandjlogaaGreat
