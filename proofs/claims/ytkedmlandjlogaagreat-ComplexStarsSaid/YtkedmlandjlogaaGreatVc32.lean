/-
  Part 32 of the texts that the claims of this seat lean on: walks of the program's functions by contracts over symbolic frames, and plain laws of what they compute. No condition.
-/
import Derived.Test.YtkedmlandjlogaaGreatVc6
import Derived.Test.YtkedmlandjlogaaGreatVc8
import Derived.Test.YtkedmlandjlogaaGreatVc11
import Derived.Test.YtkedmlandjlogaaGreatVc21
import Derived.Test.YtkedmlandjlogaaGreatVc31
set_option linter.unusedVariables false
set_option linter.unusedSimpArgs false
set_option linter.unusedSectionVars false
namespace Go.Proofs.YtkedmlandjlogaaGreat
open Go.RowKit
set_option linter.unusedSimpArgs false

set_option maxHeartbeats 2000000
set_option maxRecDepth 100000
theorem WL.storeF4 {P : Program} {ops : Array Oper} {hp : List HObj} {fr : List Dat} {d : Dat} {Q : Post} {rest : List Oper} {ty : TypeId} {ps : String} {af : Array Edge} {x : Operand} {t b n : Nat} {T T2 : TypeId} {agg : Bool} {d0 : Dat} {o1 o2 o3 : HObj} (hT : TyI P T n agg) (hp0 : fr[t]? = some (dX (.pointer (some ⟨b, 0, none⟩)))) (hx : OpD fr x d) (hs : d.Shape n agg)
    (h : WL P ops Q rest (fr.set t (dP n agg d)) (o1 :: o2 :: o3 :: hp)) : WL P ops Q ({ dst := none, op := .store T (.tmp t) x, type := ty, pos := ps, after := af, guard := none } :: rest) fr (o1 :: o2 :: o3 :: hCell b T2 n agg d0 :: hp) :=
  WL.perm (((List.Perm.cons o1 ((List.Perm.swap _ _ _).cons _ |>.trans (List.Perm.swap _ _ _)))).trans (List.Perm.swap _ _ _)) (WL.storeF hT hp0 hx hs h)
theorem point27_p (c : Int) : Fn Tryz.prog 76 [dI c] (dS RV (c, 0)) := by
  -- @kinds all
  refine Fn.introC1 tyV Tryz.func76 rfl rfl ?_
  simp only [Tryz.ntmps76, List.length_cons, List.length_nil, Nat.reduceAdd, Nat.reduceSub, List.replicate_succ, List.replicate_zero, List.cons_append, List.nil_append]
  ((repeat' (first | (apply WL.opG; (focus (apply SYG.yes; (exact want_none rfl); (first | (apply SY.move <;> (exact oD))))); dsimp only [setD, z0, z1]) | refine WL.nil ?_ | refine WC.seqK fun Kx hK => ?_ | (refine hK _ _ ?_; clear hK) | refine WC.region ?_ | (apply WL.alloc; (first | exact tzV | exact tzC); (first | exact shape_X rfl | exact shape_XV | exact shape_C0 rfl); (intro _; dsimp only [setD, z0, z1])) | (apply WL.storeF; (exact tD); rfl; (exact oD); (exact hD); dsimp only [setD, z0, z1]) | (apply WL.opG; (focus (apply SYG.yes; (exact want_none rfl); ((first | exact yBuild | fail); all_goals infer_instance))); dsimp only [setD, z0, z1]) | refine WC.ret ?_)); all_goals (first | refine WC.id ?_ | refine WL.id ?_ | refine WDs.id ?_ | ((repeat clear hK); (repeat clear Kx))))
  all_goals (refine ⟨trivial, _, rfl, ?_⟩; (first | exact fD | refine FinD.i ?_ | refine FinD.b ?_ | refine FinD.rowKE (.head _) ?_ | refine FinD.rowE (.head _) ?_ | refine FinD.nilKE (by decide) ?_ | refine FinD.nilE ?_ | refine FinD.s ?_))
abbrev va : Vx := (0, 0)
abbrev vb : Vx := (1, 0)
abbrev vc : Vx := (2, 0)
abbrev vd : Vx := (3, 0)
abbrev exC : Cx := [[va, vb, vc], [vc, vd]]
theorem a_of : ofP [[vc, vd], [vb], [va, vb, vc], [vc, vd]] = (exC, 0) := by decide
theorem a_simp : simplC exC 2 = ([[va, vb], [va, vc], [vb, vc], [vc, vd]], 0) := by decide
theorem a_chk : chkC exC = 0 := by decide
theorem a_dim : dimC exC = 2 := by decide
theorem a_pure : sizeP exC = false := by decide
theorem a_euler : eulC exC = (1, 0) := by decide
theorem a_star : starC exC [vc] = (exC, 0) := by decide
theorem a_link : linkC exC [vc] = ([[va, vb], [vd]], 0) := by decide
theorem a_other : linkC exC [va] = ([[vb, vc]], 0) := by decide
theorem a_bnd : bndP [[va, vb, vc], [vb, vc, vd]] = ([[va, vb], [va, vc], [vb, vd], [vc, vd]], 0) := by decide
theorem a_bnd2 : bndP exC = ([], 15) := by decide
set_option maxHeartbeats 16000000 in
theorem awake27_p : Fn Tryz.prog 17 [] (dB true) := by
  have c1 := of27_p [[vc, vd], [vb], [va, vb, vc], [vc, vd]]
  rw [a_of] at c1
  have c2 := simplices27_p exC 2
  rw [a_simp] at c2
  have c3 := dimensionX_p exC
  rw [a_chk, a_dim, a_pure, if_neg (by decide), if_neg (by decide)] at c3
  have c4 := euler27_p exC
  rw [a_euler] at c4
  have c5 := star27_p exC [vc]
  rw [a_star] at c5
  have c6 := link27_p exC [vc]
  rw [a_link] at c6
  have c7 := link27_p exC [va]
  rw [a_other] at c7
  have c8 := boundary27_p [[va, vb, vc], [vb, vc, vd]]
  rw [a_bnd] at c8
  have c9 := boundary27_p exC
  rw [a_bnd2] at c9
  have s : ∀ l : Cx, Fn Tryz.prog 77 [dS Simps l, dS Simps l] (dB true) := fun l => by
    have := sameAll_c l l
    rwa [decide_eq_true rfl] at this
  have s2 : ∀ l : Cx, Fn Tryz.prog 21 [dS Cpx l, dS Cpx l] (dB true) := fun l => by
    have := sameC_c l l
    rwa [decide_eq_true rfl] at this
  refine Fn.intro1 Tryz.func17 rfl rfl ?_
  show WC _ _ _ (List.replicate 206 (dX undef)) []
  simp only [List.replicate_succ, List.replicate_zero]
  ((repeat' (first | (apply WL.opG; (focus (apply SYG.yes; (exact want_none rfl); (first | (apply SY.move <;> (exact oD)) | (apply SY.assign <;> (exact oD)) | (apply SY.load; (exact tD); (exact OpD.t rfl))))); dsimp only [setD, z0, z1]) | refine WL.nil ?_ | refine WC.seqK fun Kx hK => ?_ | (refine hK _ _ ?_; clear hK) | refine WC.region ?_ |  (apply WL.storeF4; exact tyV; rfl; exact OpD.t rfl; exact shape_V; dsimp only [setD, z0, z1]) | (apply WL.alloc; (first | exact tzV | exact tzC); (first | exact shape_X rfl | exact shape_XV | exact shape_C0 rfl); (intro _; dsimp only [setD, z0, z1])) | (apply WL.storeF; (exact tD); rfl; (exact oD); (exact hD); dsimp only [setD, z0, z1]) | (apply WL.storeF2; (exact tD); rfl; (exact oD); (exact hD); dsimp only [setD, z0, z1]) | (apply WL.storeF3; (exact tD); rfl; (exact oD); (exact hD); dsimp only [setD, z0, z1]) | (apply WL.opG; (focus (first | (apply SYG.no; first | exact want_notT rfl rfl rfl (by with_reducible rfl) | exact want_notF rfl rfl rfl (by with_reducible rfl)) | (apply SYG.yes; (first | exact want_none rfl | exact want_yes rfl rfl rfl (by with_reducible rfl)); ((first | (apply SY.call (point27_p _) Tryz.call76; (exact aD)) | (apply SY.call (c1) Tryz.call25; (exact aD)) | (apply SY.call (c2) Tryz.call74; (exact aD)) | (apply SY.call (c3) Tryz.call32; (exact aD)) | (apply SY.call (c4) Tryz.call19; (exact aD)) | (apply SY.call (c5) Tryz.call39; (exact aD)) | (apply SY.call (c6) Tryz.call22; exact ArgsD.cons (OpD.t rfl) (ArgsD.cons (OpD.t rfl) (ArgsD.nil))) | (apply SY.call (c7) Tryz.call22; exact ArgsD.cons (OpD.t rfl) (ArgsD.cons (OpD.t rfl) (ArgsD.nil))) | (apply SY.call (c8) Tryz.call64; exact ArgsD.cons (OpD.t rfl) (ArgsD.nil)) | (apply SY.call (c9) Tryz.call64; exact ArgsD.cons (OpD.t rfl) (ArgsD.nil)) | (apply SY.call (s _) Tryz.call77; (exact aD)) | (apply SY.call (s2 _) Tryz.call21; (exact aD)) | exact yMove | exact yEql | exact yNeq | exact yNot | exact yAdd | exact yLoad | exact yFieldaddr | exact yBuild | exact yBuildslice | exact yPick | exact yExtract | fail); all_goals infer_instance)))); dsimp only [setD, z0, z1]) | ((first | refine WL.caseP rfl rfl rfl (fun h => ?_) (fun h => ?_) | refine WL.caseN rfl rfl rfl (fun h => ?_) (fun h => ?_) | refine WL.caseB rfl rfl rfl (fun h => ?_) (fun h => ?_)) <;> (first | (exfalso; first | omega | contradiction) | (dsimp only [z0, z1]))) | (apply WC.condN; (exact oD); (all_goals intro h); (all_goals try (exfalso; first | omega | contradiction))) | (apply WC.condNB; (exact oD); (all_goals intro h); (all_goals try (exfalso; first | omega | contradiction))) | refine WC.skip ?_ | refine WC.ret ?_)); all_goals (first | refine WC.id ?_ | refine WL.id ?_ | refine WDs.id ?_ | ((repeat clear hK); (repeat clear Kx))))
  (refine ⟨trivial, _, rfl, ?_⟩; (first | exact fD | refine FinD.i ?_ | refine FinD.b ?_ | refine FinD.rowKE (.head _) ?_ | refine FinD.rowE (.head _) ?_ | refine FinD.nilKE (by decide) ?_ | refine FinD.nilE ?_ | refine FinD.s ?_))
end Go.Proofs.YtkedmlandjlogaaGreat
namespace Go.Proofs.YtkedmlandjlogaaGreat
open Go.RowKit
set_option linter.unusedSimpArgs false

set_option maxHeartbeats 2000000
set_option maxRecDepth 100000
def chooseN : Nat → Nat → Nat
  | _, 0 => 1
  | 0, _ + 1 => 0
  | n + 1, k + 1 => chooseN n k + chooseN n (k + 1)
theorem subs_choose : ∀ (s : List Vx) (k : Nat), (subsV k s).length = chooseN s.length k
  | s, 0 => by rw [subsV_zero]; cases s <;> rfl
  | [], k + 1 => by rw [subsV_short _ _ (by simp)]; rfl
  | v :: s, k + 1 => by rw [subsV_next, subs_choose s k, subs_choose s (k + 1)]; rfl
theorem max_len (l : Cx) : (maxC l).length ≤ l.length := List.Nodup.length_le_of_subset (maxC_asc l).nodup fun _ hx => (maxC_mem.1 hx).1
theorem few_len {l : Cx} (h : fewAllV l = true) : l.length ≤ 30 := by
  unfold fewAllV at h
  simp only [Bool.and_eq_true, decide_eq_true_eq] at h
  exact h.1
end Go.Proofs.YtkedmlandjlogaaGreat
namespace Go.Proofs.YtkedmlandjlogaaGreat
theorem inside_trans {a b c : List Vx} (h : insideV a b = true) (k : insideV b c = true) : insideV a c = true := by
  unfold insideV at *
  rw [List.all_eq_true] at *
  intro x hx
  exact k x (of_decide_eq_true (h x hx))
theorem inside_self (a : List Vx) : insideV a a = true := by
  unfold insideV
  rw [List.all_eq_true]
  intro x hx
  exact decide_eq_true hx
theorem top_over {l : Cx} (h : ∀ s ∈ l, 0 < s.length ∧ s.length ≤ 8) : ∀ (n : Nat) (s : List Vx), s ∈ l → 8 - s.length ≤ n → ∃ f ∈ maxC l, insideV s f = true
  | n, s, hs, hn => by
    by_cases hc : coveredC l s = true
    · obtain ⟨x, hx, h1, h2⟩ := coveredC_iff.1 hc
      have h3 := (h x hx).2
      match n with
      | 0 => omega
      | n + 1 =>
        obtain ⟨f, hf, h4⟩ := top_over h n x hx (by omega)
        exact ⟨f, hf, inside_trans h2 h4⟩
    · refine ⟨s, maxC_mem.2 ⟨hs, ?_⟩, inside_self s⟩
      unfold topC
      rw [Bool.and_eq_true]
      exact ⟨decide_eq_true (h s hs).1, by simpa using hc⟩
theorem hasC_iff {l : Cx} {s : List Vx} : hasC' l s = true ↔ ∃ f ∈ l, insideV s f = true := by unfold hasC'; rw [List.any_eq_true]
theorem bool_iff {a b : Bool} (h : a = true ↔ b = true) : a = b := by cases a <;> cases b <;> simp_all
theorem chk_len {s : List Vx} (h : chkV s = 0) : 0 < s.length ∧ s.length ≤ 8 := by
  obtain ⟨h1, h2, _⟩ := chkV_zero.1 h
  exact ⟨by omega, h2⟩
theorem max_has {l : Cx} (hg : ∀ s ∈ l, chkV s = 0) (s : List Vx) : hasC' (maxC l) s = hasC' l s := by
  apply bool_iff
  rw [hasC_iff, hasC_iff]
  constructor
  · rintro ⟨f, hf, h⟩; exact ⟨f, (maxC_mem.1 hf).1, h⟩
  · rintro ⟨f, hf, h⟩
    obtain ⟨g, hg', h2⟩ := top_over (fun s hs => chk_len (hg s hs)) 8 f hf (by omega)
    exact ⟨g, hg', inside_trans h h2⟩
theorem inside_mem {a b : List Vx} : insideV a b = true ↔ ∀ x ∈ a, x ∈ b := by
  unfold insideV
  rw [List.all_eq_true]
  exact ⟨fun h x hx => of_decide_eq_true (h x hx), fun h x hx => decide_eq_true (h x hx)⟩
theorem all_iff {l : Cx} (hl : ∀ s ∈ l, Asc s) {k : Nat} {x : List Vx} : x ∈ allC l k ↔ Asc x ∧ x.length = k ∧ hasC' l x = true := by
  rw [allC_mem, hasC_iff]
  constructor
  · rintro ⟨f, hf, hx⟩
    obtain ⟨h1, h2⟩ := (subsV_mem _ _ _).1 hx
    have ha : Asc x := List.Pairwise.sublist h1 (hl f hf)
    exact ⟨ha, h2, f, hf, (sub_inside ha (hl f hf)).1 h1⟩
  · rintro ⟨ha, h2, f, hf, h⟩
    exact ⟨f, hf, (subsV_mem _ _ _).2 ⟨(sub_inside ha (hl f hf)).2 h, h2⟩⟩
theorem all_few {l : Cx} {k B : Nat} (h : ∀ s ∈ l, (subsV k s).length ≤ B) : (allC l k).length ≤ B * l.length := by
  have h1 : (allC l k).length ≤ (fcsC l k).length := List.Nodup.length_le_of_subset (allC_asc l _).nodup fun x hx => fcsC_mem.2 hx
  have h2 : ∀ l : Cx, (∀ s ∈ l, (subsV k s).length ≤ B) → (fcsC l k).length ≤ B * l.length := by
    intro l
    induction l with
    | nil => intro _; simp [fcsC]
    | cons s l ih =>
      intro h
      have h3 := ih fun x hx => h x (List.mem_cons_of_mem _ hx)
      have h4 := h s (by simp)
      have h5 : (fcsC (s :: l) k).length = (subsV k s).length + (fcsC l k).length := by unfold fcsC; simp
      rw [h5, List.length_cons, Nat.mul_add, Nat.mul_one]
      omega
  exact Nat.le_trans h1 (h2 l h)
theorem choose_5 : ∀ n ≤ 5, ∀ k ≤ 5, chooseN n k ≤ 10 := by decide
structure Gd (l : Cx) : Prop where
  good : GoodX l
  few : l.length ≤ 30
  five : ∀ s ∈ l, s.length ≤ 5
theorem Gd.all {l : Cx} (h : Gd l) (k : Nat) : (allC l k).length ≤ 300 := by
  have := all_few (l := l) (k := k) (B := 10) fun s hs => by
    have h5 := h.five s hs
    by_cases hk : k ≤ 5
    · rw [subs_choose]; exact choose_5 _ h5 _ hk
    · rw [subsV_short k s (by omega)]; simp
  have := h.few
  omega
theorem Gd.chk {l : Cx} (h : Gd l) : ∀ s ∈ l, chkV s = 0 := h.good.2.2.1
theorem Gd.zero {l : Cx} (h : Gd l) : chkC l = 0 := goodX_iff.2 h.good
theorem Gd.none {l : Cx} (h : Gd l) {k : Nat} (hk : 5 < k) : allC l k = [] := by
  apply List.eq_nil_iff_forall_not_mem.2
  intro x hx
  obtain ⟨f, hf, hx⟩ := allC_mem.1 hx
  rw [subsV_short k f (by have := h.five f hf; omega)] at hx
  simp at hx
def upC (l : Cx) : Nat → Cx
  | 0 => []
  | k + 1 => upC l k ++ allC l (k + 1)
theorem upC_mem {l : Cx} {x : List Vx} : ∀ {k : Nat}, x ∈ upC l k ↔ ∃ j, 1 ≤ j ∧ j ≤ k ∧ x ∈ allC l j
  | 0 => by
    constructor
    · intro h; simp [upC] at h
    · rintro ⟨j, h1, h2, _⟩; omega
  | k + 1 => by
    unfold upC
    rw [List.mem_append, upC_mem]
    constructor
    · rintro (⟨j, h1, h2, h3⟩ | h)
      · exact ⟨j, h1, by omega, h3⟩
      · exact ⟨k + 1, by omega, Nat.le_refl _, h⟩
    · rintro ⟨j, h1, h2, h3⟩
      by_cases hj : j = k + 1
      · subst hj; exact .inr h3
      · exact .inl ⟨j, h1, by omega, h3⟩
theorem Gd.up {l : Cx} (h : Gd l) : ∀ k, (upC l k).length ≤ 300 * k
  | 0 => by simp [upC]
  | k + 1 => by
    have h1 := h.up k
    have h2 := h.all (k + 1)
    unfold upC
    rw [List.length_append]
    omega
theorem Gd.face {l : Cx} (h : Gd l) {k : Nat} {s : List Vx} (hs : s ∈ upC l k) : chkV s = 0 ∧ hasC' l s = true := by
  obtain ⟨j, h1, _, h3⟩ := upC_mem.1 hs
  obtain ⟨f, hf, hx⟩ := allC_mem.1 h3
  exact ⟨(face_good (h.chk f hf) h1 hx).1, ((all_iff h.good.asc).1 h3).2.2⟩
theorem cont_is {l : Cx} {s : List Vx} (h : GoodX l) (hs : chkV s = 0) : contC l s = (hasC' l s, 0) := by
  unfold contC plC
  rw [goodX_iff.2 h, if_neg (by omega : ¬ (0 : Int) ≠ 0), hs, if_neg (by omega)]
end Go.Proofs.YtkedmlandjlogaaGreat
namespace Go.Proofs.YtkedmlandjlogaaGreat
open Go.RowKit
set_option linter.unusedSimpArgs false

set_option maxHeartbeats 2000000
set_option maxRecDepth 100000
abbrev Cpxs : Rel (List Cx) := ArrK 1 Cpx
theorem elC : ElT Tryz.prog 47 24 1 (.agg #[.slice none 0 0]) 24 true := ⟨Tryz.underlying47, by kernel_rfl, Tryz.isAgg24, rfl⟩
def goodB (l : Cx) : Bool := fewAllV l && (decide (chkC l = 0) && decide (dimC l ≤ 4))
theorem allG_snoc {α : Type} {l : List α} {p : α → Bool} {k : Nat} (h : k < l.length) : (l.take (k + 1)).all p = ((l.take k).all p && p l[k]) := by rw [take_snoc' h, List.all_append]; simp
theorem all_not {α : Type} {l : List α} {p : α → Bool} {k : Nat} (h : k < l.length) (hp : p l[k] = false) : l.all p = false := by
  rw [List.all_eq_false]
  exact ⟨l[k], List.getElem_mem h, by rw [hp]; exact Bool.false_ne_true⟩
theorem gd_of {l : Cx} (h : goodB l = true) : Gd l := by
  unfold goodB at h
  rw [Bool.and_eq_true, Bool.and_eq_true] at h
  obtain ⟨h1, h2, h3⟩ := h
  have h3 := of_decide_eq_true h3
  refine ⟨goodX_iff.1 (of_decide_eq_true h2), few_len h1, fun s hs => ?_⟩
  have := (most_max l).1 s hs
  have := most_dim l
  omega
set_option maxHeartbeats 4000000 in
theorem good27_p (ls : List Cx) : Fn Tryz.prog 16 [dS Cpxs ls] (dB (ls.all goodB)) := by
  (refine Fn.intro1 Tryz.func16 rfl rfl ?_; simp only [Tryz.ntmps16, List.length_cons, List.length_nil, Nat.reduceAdd, Nat.reduceSub, List.replicate_succ, List.replicate_zero, List.cons_append, List.nil_append])
  (first | refine WC.know (t := 0) rfl le_K fun hl0 => ?_ | refine WC.know (t := 0) rfl le_A fun hl0 => ?_ | refine WC.know (t := 0) rfl le_C fun hl0 => ?_); simp only [maxLen] at hl0
  ((repeat' (first | (apply WL.opG; (focus (apply SYG.yes; (exact want_none rfl); (first | (apply SY.move <;> (exact oD)) | (apply SY.assign <;> (exact oD)) | (apply SY.load; (exact tD); (exact OpD.t rfl))))); dsimp only [setD, z0, z1]) | refine WL.nil ?_ | refine WC.seqK fun Kx hK => ?_ | (refine hK _ _ ?_; clear hK) | refine WC.region ?_ | (apply WL.opG; (focus (first | (apply SYG.no; first | exact want_notT rfl rfl rfl (by with_reducible rfl) | exact want_notF rfl rfl rfl (by with_reducible rfl)) | (apply SYG.yes; (first | exact want_none rfl | exact want_yes rfl rfl rfl (by with_reducible rfl)); ((first | (apply SY.len; (exact oD); (first | exact len_K | exact len_A | exact len_nil); (first | exact uD | exact elC.unt)) | fail); all_goals infer_instance)))); dsimp only [setD, z0, z1]) | refine WC.block ?_)); all_goals (first | refine WC.id ?_ | refine WL.id ?_ | refine WDs.id ?_ | ((repeat clear hK); (repeat clear Kx))))
  (refine WC.loopU (X := Nat) (fun k => [(9, dI (k : Int)), (2, dA), (4, dA), (5, dA), (6, dA), (10, dA), (11, dA), (12, dA), (13, dA), (14, dA), (15, dA), (16, dA), (17, dA), (18, dA), (19, dA), (20, dA), (21, dA), (22, dA), (23, dA), (24, dA), (25, dA), (26, dA), (27, dA), (28, dA), (29, dA), (30, dA)]) (fun k => []) (fun k => ls.length - k) (fun k => k ≤ ls.length ∧ (ls.take k).all goodB = true) 0 ?start ?frame0 ?objs0 ?round)
  case start => exact ⟨Nat.zero_le _, rfl⟩
  case frame0 => ((try dsimp only [upds, z0, z1]); repeat (first | exact LeF.nil | refine LeF.cons (by first | with_reducible exact Dat.le_any _ | with_reducible exact Dat.le_refl _ | exact le_ii (by omega) | exact Dat.le_nil | exact Dat.le_nilK (by decide) | assumption | exact Dat.le_refl _ | exact le_eq (by simp)) ?_))
  case objs0 => rfl
  case round =>
    rintro k ⟨h1, h2⟩
    dsimp only [upds, z0, z1]
    ((repeat' (first | (apply WL.opG; (focus (apply SYG.yes; (exact want_none rfl); (first | (apply SY.move <;> (exact oD)) | (apply SY.assign <;> (exact oD)) | (apply SY.load; (exact tD); (exact OpD.t rfl))))); dsimp only [setD, z0, z1]) | refine WL.nil ?_ | refine WC.seqK fun Kx hK => ?_ | (refine hK _ _ ?_; clear hK) | (refine Kont.skip ?_; clear hK) | refine WC.region ?_ | (apply WL.alloc; (first | exact tzV | exact tzC); (first | exact shape_X rfl | exact shape_XV | exact shape_C0 rfl); (intro _; dsimp only [setD, z0, z1])) | (apply WL.storeF; (exact tD); rfl; (exact oD); (exact hD); dsimp only [setD, z0, z1]) | (apply WL.opG; (focus (first | (apply SYG.no; first | exact want_notT rfl rfl rfl (by with_reducible rfl) | exact want_notF rfl rfl rfl (by with_reducible rfl)) | (apply SYG.yes; (first | exact want_none rfl | exact want_yes rfl rfl rfl (by with_reducible rfl)); ((first | (apply SY.call (size_c _) Tryz.call75; (exact aD)) | (apply SY.call (fewC_c _) Tryz.call42; (exact aD)) | (apply SY.call (chk27_c _) Tryz.call28; (exact aD)) | ((first | apply SY.move | apply SY.assign | apply SY.lss | apply SY.gtr | apply SY.neq | apply SY.not) <;> (exact oD)) | ((first | apply SY.add) <;> first | exact oD | omega) | (apply SY.load; (exact tD); (exact oD)) | (apply SY.ixK; (first | exact eD | exact elC); (exact oD); (exact oD); (first | assumption | omega)) | (apply SY.pickT; (exact oD); (with_reducible rfl); (exact oD)) | (apply SY.pickF; (exact oD); (with_reducible rfl); (exact oD)) | (apply SY.extract; (exact oD); rfl) | fail); all_goals infer_instance)))); dsimp only [setD, z0, z1]) | ((first | refine WL.caseP rfl rfl rfl (fun h => ?_) (fun h => ?_) | refine WL.caseN rfl rfl rfl (fun h => ?_) (fun h => ?_) | refine WL.caseB rfl rfl rfl (fun h => ?_) (fun h => ?_)) <;> (first | (exfalso; first | omega | contradiction) | (dsimp only [z0, z1]))) | (apply WC.condT; (exact oD); (with_reducible rfl)) | (apply WC.condD; (exact oD); (all_goals intro h); (all_goals try (exfalso; first | omega | contradiction))) | refine WC.skip ?_ | refine WC.ret ?_ | refine WC.exit ?_ | refine WC.block ?_ | refine ThenD.n ?_ | refine ThenD.r ?_ | refine InBlockD.r ?_)); all_goals (first | refine WC.id ?_ | refine WL.id ?_ | refine WDs.id ?_ | ((repeat clear hK); (repeat clear Kx))))
    · have hk : k < ls.length := by omega
      have hg : goodB ls[k] = false := by unfold goodB; simp_all
      rw [all_not hk hg]; (refine ⟨trivial, _, rfl, ?_⟩; (first | exact fD | refine FinD.i ?_ | refine FinD.b ?_ | refine FinD.rowKE (.head _) ?_ | refine FinD.rowE (.head _) ?_ | refine FinD.nilKE (by decide) ?_ | refine FinD.nilE ?_ | refine FinD.s ?_))
    · have hk : k < ls.length := by omega
      have hg : goodB ls[k] = false := by unfold goodB; simp_all
      rw [all_not hk hg]; (refine ⟨trivial, _, rfl, ?_⟩; (first | exact fD | refine FinD.i ?_ | refine FinD.b ?_ | refine FinD.rowKE (.head _) ?_ | refine FinD.rowE (.head _) ?_ | refine FinD.nilKE (by decide) ?_ | refine FinD.nilE ?_ | refine FinD.s ?_))
    · have hk : k < ls.length := by omega
      have hg : goodB ls[k] = false := by
        unfold goodB
        rw [decide_eq_false (show ¬ dimC ls[k] ≤ 4 by omega), Bool.and_false, Bool.and_false]
      rw [all_not hk hg]; (refine ⟨trivial, _, rfl, ?_⟩; (first | exact fD | refine FinD.i ?_ | refine FinD.b ?_ | refine FinD.rowKE (.head _) ?_ | refine FinD.rowE (.head _) ?_ | refine FinD.nilKE (by decide) ?_ | refine FinD.nilE ?_ | refine FinD.s ?_))
    · have hk : k < ls.length := by omega
      rename_i hq1 hq2 hq3
      have hg : goodB ls[k] = true := by
        unfold goodB
        rw [decide_eq_true (show dimC ls[k] ≤ 4 by omega), Bool.and_true]
        simp_all
      (refine ⟨k + 1, ?_, by first | omega | (simp only; omega), rfl, ?_⟩; rotate_left; ((try dsimp only [upds, z0, z1]); repeat (first | exact LeF.nil | refine LeF.cons (by first | with_reducible exact Dat.le_any _ | with_reducible exact Dat.le_refl _ | exact le_ii (by omega) | exact Dat.le_nil | exact Dat.le_nilK (by decide) | assumption | exact Dat.le_refl _ | exact le_eq (by simp)) ?_)); (try dsimp only))
      exact ⟨by omega, by rw [allG_snoc hk, h2, hg]; rfl⟩
    · rw [List.take_of_length_le (by omega)] at h2
      rw [h2]; (refine ⟨trivial, _, rfl, ?_⟩; (first | exact fD | refine FinD.i ?_ | refine FinD.b ?_ | refine FinD.rowKE (.head _) ?_ | refine FinD.rowE (.head _) ?_ | refine FinD.nilKE (by decide) ?_ | refine FinD.nilE ?_ | refine FinD.s ?_))
theorem all27_p {l : Cx} (G : Gd l) : Fn Tryz.prog 38 [dS Cpx l] (dT [dS Simps (upC l 5), dB true]) := by
  (refine Fn.intro2 Tryz.func38 rfl rfl ?_; simp only [Tryz.ntmps38, List.length_cons, List.length_nil, Nat.reduceAdd, Nat.reduceSub, List.replicate_succ, List.replicate_zero, List.cons_append, List.nil_append])
  ((repeat' (first | (apply WL.opG; (focus (apply SYG.yes; (exact want_none rfl); (first | (apply SY.move <;> (exact oD)) | (apply SY.assign <;> (exact oD)) | (apply SY.load; (exact tD); (exact OpD.t rfl))))); dsimp only [setD, z0, z1]) | refine WL.nil ?_ | refine WC.seqK fun Kx hK => ?_ | (refine hK _ _ ?_; clear hK) | refine WC.region ?_ | (apply WL.opG; (focus (apply SYG.yes; (exact want_none rfl); ((first | (apply SY.box; (exact oD); (exact hD)) | fail); all_goals infer_instance))); dsimp only [setD, z0, z1]) | refine WC.block ?_)); all_goals (first | refine WC.id ?_ | refine WL.id ?_ | refine WDs.id ?_ | ((repeat clear hK); (repeat clear Kx))))
  refine WC.nilRow 32 Verts ?_
  (refine WC.loopU (X := Nat × Value) (fun x => [(5, dI ((x.1 : Int) + 1)), (4, dX x.2), (2, dA), (3, dA), (6, dA), (7, dA), (8, dA), (9, dA), (10, dA), (11, dA), (12, dA), (13, dA), (14, dA), (15, dA), (16, dA), (17, dA), (18, dA), (19, dA), (20, dA), (21, dA), (22, dA)]) (fun x => [hRow x.2 32 Verts (upC l x.1)]) (fun x => 5 - x.1) (fun x => x.1 ≤ 5) (0, .slice none 0 0) ?start ?frame0 ?objs0 ?round)
  case start => exact Nat.zero_le _
  case frame0 => ((try dsimp only [upds, z0, z1]); repeat (first | exact LeF.nil | refine LeF.cons (by first | with_reducible exact Dat.le_any _ | with_reducible exact Dat.le_refl _ | exact le_ii (by omega) | exact Dat.le_nil | exact Dat.le_nilK (by decide) | assumption | exact Dat.le_refl _ | exact le_eq (by simp)) ?_))
  case objs0 => rfl
  case round =>
    rintro ⟨k, v⟩ h1
    simp only at h1
    have ha := G.all (k + 1)
    have hu := G.up k
    have c1 : k < 5 → Fn Tryz.prog 74 [dS Cpx l, dI ((k : Int) + 1)] (dT [dS Simps (allC l (k + 1)), dI 0]) := fun hk => by
      have := simplices27_p l ((k : Int) + 1)
      have e : simplC l ((k : Int) + 1) = (allC l (k + 1), 0) := by
        have e1 : ((k : Int) + 1).toNat = k + 1 := by omega
        unfold simplC
        rw [G.zero, if_neg (by omega), if_neg (by omega), e1, if_neg (by omega)]
      rwa [e] at this
    dsimp only [upds, z0, z1]
    by_cases hk : k < 5
    · have c2 := c1 hk
      ((repeat' (first | (apply WL.opG; (focus (apply SYG.yes; (exact want_none rfl); (first | (apply SY.move <;> (exact oD)) | (apply SY.assign <;> (exact oD)) | (apply SY.load; (exact tD); (exact OpD.t rfl))))); dsimp only [setD, z0, z1]) | refine WL.nil ?_ | refine WC.seqK fun Kx hK => ?_ | (refine hK _ _ ?_; clear hK) | refine WC.region ?_ | ((first | apply WL.appK | apply WL.app1); (first | exact eD | exact elC); exact OpD.t rfl; (exact oD); decide; (exact lD); (intro _; dsimp only [setD, z0, z1]); all_goals (try infer_instance)) | (apply WL.opG; (focus (apply SYG.yes; (exact want_none rfl); ((first | (apply SY.call (c2) Tryz.call74; (exact aD)) | ((first | apply SY.move | apply SY.assign | apply SY.leq | apply SY.neq) <;> (exact oD)) | ((first | apply SY.add) <;> first | exact oD | omega) | (apply SY.extract; (exact oD); rfl) | fail); all_goals infer_instance))); dsimp only [setD, z0, z1]) | (apply WC.condD; (exact oD); (all_goals intro h); (all_goals try (exfalso; first | omega | contradiction))) | (apply WC.condN; (exact oD); (all_goals intro h); (all_goals try (exfalso; first | omega | contradiction))) | refine WC.skip ?_ | refine WC.block ?_ | refine ThenD.n ?_)); all_goals (first | refine WC.id ?_ | refine WL.id ?_ | refine WDs.id ?_ | ((repeat clear hK); (repeat clear Kx))))
      all_goals first
        | (exfalso; omega)
        | ((refine ⟨(k + 1, _), ?_, by first | omega | (simp only; omega), rfl, ?_⟩; rotate_left; ((try dsimp only [upds, z0, z1]); repeat (first | exact LeF.nil | refine LeF.cons (by first | with_reducible exact Dat.le_any _ | with_reducible exact Dat.le_refl _ | exact le_ii (by omega) | exact Dat.le_nil | exact Dat.le_nilK (by decide) | assumption | exact Dat.le_refl _ | exact le_eq (by simp)) ?_)); (try dsimp only)); show k + 1 ≤ 5; omega)
    · have hk5 : k = 5 := by omega
      subst hk5
      ((repeat' (first | (apply WL.opG; (focus (apply SYG.yes; (exact want_none rfl); (first | (apply SY.move <;> (exact oD)) | (apply SY.assign <;> (exact oD)) | (apply SY.load; (exact tD); (exact OpD.t rfl))))); dsimp only [setD, z0, z1]) | refine WL.nil ?_ | refine WC.seqK fun Kx hK => ?_ | (refine hK _ _ ?_; clear hK) | (refine Kont.skip ?_; clear hK) | refine WC.region ?_ | (apply WL.opG; (focus (apply SYG.yes; (exact want_none rfl); ((first | ((first | apply SY.move | apply SY.assign | apply SY.leq | apply SY.neq) <;> (exact oD)) | fail); all_goals infer_instance))); dsimp only [setD, z0, z1]) | (apply WC.condD; (exact oD); (all_goals intro h); (all_goals try (exfalso; first | omega | contradiction))) | refine WC.ret ?_ | refine WC.exit ?_)); all_goals (first | refine WC.id ?_ | refine WL.id ?_ | refine WDs.id ?_ | ((repeat clear hK); (repeat clear Kx))))
      all_goals first
        | (exfalso; omega)
        | (refine ⟨trivial, ⟨_, rfl, ?_⟩, _, rfl, ?_⟩ <;> (first | exact fD | refine FinD.i ?_ | refine FinD.b ?_ | refine FinD.rowKE (.head _) ?_ | refine FinD.rowE (.head _) ?_ | refine FinD.nilKE (by decide) ?_ | refine FinD.nilE ?_ | refine FinD.s ?_))
end Go.Proofs.YtkedmlandjlogaaGreat
namespace Go.Proofs.YtkedmlandjlogaaGreat
theorem allC_self {l : Cx} {x : List Vx} (hx : x ∈ l) : x ∈ allC l x.length := allC_mem.2 ⟨x, hx, (subsV_mem _ _ _).2 ⟨List.Sublist.refl _, rfl⟩⟩
theorem Gd.self {l : Cx} (h : Gd l) {x : List Vx} (hx : x ∈ l) : x ∈ upC l 5 := by
  have := chk_len (h.chk x hx)
  exact upC_mem.2 ⟨x.length, by omega, h.five x hx, allC_self hx⟩
end Go.Proofs.YtkedmlandjlogaaGreat
namespace Go.Proofs.YtkedmlandjlogaaGreat
def Apart (a b : Cx) : Prop := ∀ s ∈ a, ∀ t ∈ b, ∀ v ∈ s, v ∉ t
theorem Apart.symm {a b : Cx} (h : Apart a b) : Apart b a := fun s hs t ht v v1 v2 => h t ht s hs v v2 v1
def ofC (l : Cx) : Cx × Int := if 4096 < l.length then ([], 5) else if errC l ≠ 0 then ([], errC l) else limC (maxC l)
end Go.Proofs.YtkedmlandjlogaaGreat
namespace Go.Proofs.YtkedmlandjlogaaGreat
theorem star_has {c : Cx} {s t : List Vx} : hasC' (aroundC c s) t = hasC' c (allV s t) := by
  apply bool_iff
  rw [hasC_iff, hasC_iff]
  constructor
  · rintro ⟨f, hf, h⟩
    obtain ⟨h1, h2⟩ := List.mem_filter.1 hf
    refine ⟨f, h1, inside_mem.2 fun x hx => ?_⟩
    rcases mem_allV.1 hx with k | k
    · exact inside_mem.1 h2 x k
    · exact inside_mem.1 h x k
  · rintro ⟨f, hf, h⟩
    rw [inside_mem] at h
    exact ⟨f, List.mem_filter.2 ⟨hf, inside_mem.2 fun x hx => h x (mem_allV.2 (.inl hx))⟩, inside_mem.2 fun x hx => h x (mem_allV.2 (.inr hx))⟩
theorem out_mem {a b : List Vx} {x : Vx} : x ∈ sharedV a b false ↔ x ∈ a ∧ x ∉ b := by
  unfold sharedV; rw [List.mem_filter]; simp
theorem in_mem {a b : List Vx} {x : Vx} : x ∈ sharedV a b true ↔ x ∈ a ∧ x ∈ b := by
  unfold sharedV; rw [List.mem_filter]; simp
theorem max_has' {l : Cx} (hg : ∀ s ∈ l, s.length ≠ 0 → chkV s = 0) {s : List Vx} (hs : 0 < s.length) : hasC' (maxC l) s = hasC' l s := by
  rw [← max_ne, max_has fun x hx => hg x (List.mem_filter.1 hx).1 (by have := of_decide_eq_true (List.mem_filter.1 hx).2; omega)]
  apply bool_iff
  rw [hasC_iff, hasC_iff]
  constructor
  · rintro ⟨f, hf, h⟩
    exact ⟨f, (List.mem_filter.1 hf).1, h⟩
  · rintro ⟨f, hf, h⟩
    have h1 : s[0] ∈ f := inside_mem.1 h _ (List.getElem_mem hs)
    exact ⟨f, List.mem_filter.2 ⟨hf, decide_eq_true (List.length_pos_of_mem h1)⟩, h⟩
theorem link_chk {c : Cx} (hc : ∀ f ∈ c, chkV f = 0) (s : List Vx) : ∀ x ∈ (aroundC c s).map (fun f => sharedV f s false), x.length ≠ 0 → chkV x = 0 := fun x hx h0 => by
  obtain ⟨f, hf, rfl⟩ := List.mem_map.1 hx
  obtain ⟨h1, h2, h3, h4⟩ := chkV_zero.1 (hc f (List.mem_filter.1 hf).1)
  have hl := List.length_filter_le (fun x => decide (x ∈ s) == false) f
  refine chkV_zero.2 ⟨h0, Nat.le_trans hl h2, fun v hv => h3 v (out_mem.1 hv).1, List.Pairwise.filter _ h4⟩
theorem link_has {c : Cx} (hc : ∀ f ∈ c, chkV f = 0) {s t : List Vx} (ht : 0 < t.length) : hasC' (maxC ((aroundC c s).map fun f => sharedV f s false)) t = (hasC' c (allV s t) && decide ((sharedV s t true).length = 0)) := by
  rw [max_has' (link_chk hc s) ht]
  apply bool_iff
  rw [Bool.and_eq_true, hasC_iff, hasC_iff, decide_eq_true_iff]
  constructor
  · rintro ⟨x, hx, h⟩
    obtain ⟨f, hf, rfl⟩ := List.mem_map.1 hx
    obtain ⟨h1, h2⟩ := List.mem_filter.1 hf
    rw [inside_mem] at h h2
    refine ⟨⟨f, h1, inside_mem.2 fun y hy => ?_⟩, ?_⟩
    · rcases mem_allV.1 hy with k | k
      · exact h2 y k
      · exact (out_mem.1 (h y k)).1
    · apply List.eq_nil_iff_length_eq_zero.1
      apply List.eq_nil_iff_forall_not_mem.2
      intro y hy
      obtain ⟨k1, k2⟩ := in_mem.1 hy
      exact (out_mem.1 (h y k2)).2 k1
  · rintro ⟨⟨f, hf, h⟩, h0⟩
    rw [inside_mem] at h
    refine ⟨_, List.mem_map_of_mem (List.mem_filter.2 ⟨hf, inside_mem.2 fun y hy => h y (mem_allV.2 (.inl hy))⟩), inside_mem.2 fun y hy => out_mem.2 ⟨h y (mem_allV.2 (.inr hy)), fun hc => ?_⟩⟩
    have : y ∈ sharedV s t true := in_mem.2 ⟨hc, hy⟩
    rw [List.eq_nil_of_length_eq_zero h0] at this
    simp at this
end Go.Proofs.YtkedmlandjlogaaGreat
namespace Go.Proofs.YtkedmlandjlogaaGreat
set_option linter.unusedSectionVars false
section
variable {V : Type} [DecidableEq V]
inductive Conn (es : List (V × V)) : V → V → Prop
  | refl (u : V) : Conn es u u
  | step {u v w : V} (h : Conn es u v) (e : (v, w) ∈ es ∨ (w, v) ∈ es) : Conn es u w
theorem Conn.trans {es : List (V × V)} {u v w : V} (h : Conn es u v) (k : Conn es v w) : Conn es u w := by
  induction k with
  | refl => exact h
  | step _ e ih => exact ih.step e
theorem Conn.symm {es : List (V × V)} {u v : V} (h : Conn es u v) : Conn es v u := by
  induction h with
  | refl => exact .refl _
  | step _ e ih => exact (Conn.step (.refl _) e.symm).trans ih
theorem Conn.mono {es es' : List (V × V)} (hs : ∀ e ∈ es, e ∈ es') {u v : V} (h : Conn es u v) : Conn es' u v := by
  induction h with
  | refl => exact .refl _
  | step _ e ih => exact ih.step (e.elim (fun e => .inl (hs _ e)) fun e => .inr (hs _ e))
end
end Go.Proofs.YtkedmlandjlogaaGreat
namespace Go.Proofs.YtkedmlandjlogaaGreat
theorem star_is {l : Cx} {s : List Vx} (G : Gd l) (hs : chkV s = 0) (hh : hasC' l s = true) : starC l s = (aroundC l s, 0) := by
  unfold starC placeC
  rw [G.zero, if_neg (by decide : ¬ ((0 : Int) ≠ 0)), hs, if_neg (by decide : ¬ ((0 : Int) ≠ 0)), if_pos hh, if_neg (by decide : ¬ ((0 : Int) ≠ 0))]
theorem link_is {l : Cx} {s : List Vx} (G : GoodX l) (hs : chkV s = 0) (hh : hasC' l s = true) : linkC l s = (maxC ((aroundC l s).map fun f => sharedV f s false), 0) := by
  unfold linkC placeC
  rw [goodX_iff.2 G, if_neg (by decide : ¬ ((0 : Int) ≠ 0)), hs, if_neg (by decide : ¬ ((0 : Int) ≠ 0)), if_pos hh, if_neg (by decide : ¬ ((0 : Int) ≠ 0))]
theorem linkX_good {l : Cx} (G : Gd l) (s : List Vx) : GoodX (maxC ((aroundC l s).map fun f => sharedV f s false)) := by
  refine good_max (link_chk G.chk s) ?_
  have h1 := max_len ((aroundC l s).map fun f => sharedV f s false)
  have h2 := List.length_filter_le (fun f => insideV s f) l
  rw [List.length_map] at h1
  exact Nat.le_trans h1 (Nat.le_trans h2 G.good.1)
theorem uni_chk {s t : List Vx} (hs : chkV s = 0) (ht : chkV t = 0) (h : ¬ 8 < (allV s t).length) : chkV (allV s t) = 0 := by
  obtain ⟨h1, h2, h3, h4⟩ := chkV_zero.1 hs
  obtain ⟨k1, k2, k3, k4⟩ := chkV_zero.1 ht
  have l1 := allV_len t s
  refine chkV_zero.2 ⟨by omega, by omega, fun v hv => ?_, asc_allV h4⟩
  rcases mem_allV.1 hv with hv | hv
  · exact h3 v hv
  · exact k3 v hv
theorem uni_out {l : Cx} {s t : List Vx} (G : Gd l) (hs : chkV s = 0) (h : 8 < (allV s t).length) : hasC' l (allV s t) = false := by
  cases hc : hasC' l (allV s t) with
  | false => rfl
  | true =>
    obtain ⟨f, hf, hi⟩ := hasC_iff.1 hc
    have h1 := inside_le (asc_allV (chkV_zero.1 hs).2.2.2) (G.good.asc f hf) hi
    have h2 := G.five f hf
    omega
theorem uniV_is {s t : List Vx} (hs : chkV s = 0) (ht : chkV t = 0) : unionV s t = if 8 < (allV s t).length then ([], 5) else (allV s t, 0) := by
  unfold unionV twoV
  rw [hs, if_neg (by decide : ¬ ((0 : Int) ≠ 0)), ht, if_neg (by decide : ¬ ((0 : Int) ≠ 0))]
theorem all_pos {l : Cx} (G : Gd l) (h : l.length ≠ 0) : 0 < (upC l 5).length := by
  cases l with
  | nil => simp at h
  | cons f l => exact List.length_pos_of_mem (G.self (List.mem_cons_self ..))
theorem rem_ok {w : Int} {n : Nat} (hw : 0 ≤ w) (hn : 0 < n) : ∃ q : Nat, w.tmod (n : Int) = (q : Int) ∧ q < n := by
  refine ⟨(w.tmod n).toNat, ?_, ?_⟩
  · rw [Int.toNat_of_nonneg (Int.tmod_nonneg _ hw)]
  · have h1 := Int.tmod_lt_of_pos w (show (0 : Int) < n by omega)
    have h2 := Int.tmod_nonneg (n : Int) hw
    omega
end Go.Proofs.YtkedmlandjlogaaGreat
