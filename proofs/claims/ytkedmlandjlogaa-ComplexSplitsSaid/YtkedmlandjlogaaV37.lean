/-
  Part 37 of the texts that the claims of this seat lean on: walks of the program's functions by contracts over symbolic frames, and plain laws of what they compute. No condition.
-/
import Derived.Test.YtkedmlandjlogaaV6
import Derived.Test.YtkedmlandjlogaaV13
import Derived.Test.YtkedmlandjlogaaV19
import Derived.Test.YtkedmlandjlogaaV36
set_option linter.unusedVariables false
set_option linter.unusedSimpArgs false
set_option linter.unusedSectionVars false
namespace Go.Proofs.Ytkedmlandjlogaa
open Go.RowKit
set_option linter.unusedSimpArgs false

set_option maxHeartbeats 2000000
set_option maxRecDepth 100000
theorem WL.storeF4 {P : Program} {ops : Array Oper} {hp : List HObj} {fr : List Dat} {d : Dat} {Q : Post} {rest : List Oper} {ty : TypeId} {ps : String} {af : Array Edge} {x : Operand} {t b n : Nat} {T T2 : TypeId} {agg : Bool} {d0 : Dat} {o1 o2 o3 : HObj} (hT : TyI P T n agg) (hp0 : fr[t]? = some (dX (.pointer (some ⟨b, 0, none⟩)))) (hx : OpD fr x d) (hs : d.Shape n agg)
    (h : WL P ops Q rest (fr.set t (dP n agg d)) (o1 :: o2 :: o3 :: hp)) : WL P ops Q ({ dst := none, op := .store T (.tmp t) x, type := ty, pos := ps, after := af, guard := none } :: rest) fr (o1 :: o2 :: o3 :: hCell b T2 n agg d0 :: hp) :=
  WL.perm (((List.Perm.cons o1 ((List.Perm.swap _ _ _).cons _ |>.trans (List.Perm.swap _ _ _)))).trans (List.Perm.swap _ _ _)) (WL.storeF hT hp0 hx hs h)
theorem point27_p (c : Int) : Fn Try.prog 39 [dI c] (dS RV (c, 0)) := by
  -- @kinds all
  refine Fn.introC1 tyV Try.func39 rfl rfl ?_
  simp only [Try.ntmps39, List.length_cons, List.length_nil, Nat.reduceAdd, Nat.reduceSub, List.replicate_succ, List.replicate_zero, List.cons_append, List.nil_append]
  ((repeat' (first | (apply WL.opG; (focus (apply SYG.yes; (exact want_none rfl); (first | (apply SY.move <;> (exact oD))))); dsimp only [setD, z0, z1]) | refine WL.nil ?_ | refine WC.seqK fun Kx hK => ?_ | (refine hK _ _ ?_; clear hK) | (refine Kont.skip ?_; clear hK) | refine WC.region ?_ | (apply WL.alloc; (first | exact tzV | exact tzC); (first | exact shape_X rfl | exact shape_XV | exact shape_C0 rfl); (intro _; dsimp only [setD, z0, z1])) | (apply WL.storeF; (exact tD); rfl; (exact oD); (exact hD); dsimp only [setD, z0, z1]) | (apply WL.storeF2; (exact tD); rfl; (exact oD); (exact hD); dsimp only [setD, z0, z1]) | (apply WL.storeF3; (exact tD); rfl; (exact oD); (exact hD); dsimp only [setD, z0, z1]) | (apply WL.opG; (focus (apply SYG.yes; (exact want_none rfl); ((first | exact yMove | exact yBuild | fail); all_goals infer_instance))); dsimp only [setD, z0, z1]) | refine WC.skip ?_ | refine WC.ret ?_ | refine ThenD.n ?_ | refine ThenD.r ?_)); all_goals (first | refine WC.id ?_ | refine WL.id ?_ | refine WDs.id ?_ | ((repeat clear hK); (repeat clear Kx))))
  all_goals (refine ⟨trivial, _, rfl, ?_⟩; (first | exact fD | refine FinD.i ?_ | refine FinD.b ?_ | refine FinD.rowKE (.head _) ?_ | refine FinD.rowE (.head _) ?_ | refine FinD.nilKE (by decide) ?_ | refine FinD.nilE ?_ | refine FinD.s ?_))
abbrev va : Vx := (0, 0)
abbrev vb : Vx := (1, 0)
abbrev vc : Vx := (2, 0)
abbrev vd : Vx := (3, 0)
abbrev exC : Cx := [[va, vb, vc], [vc, vd]]
theorem a_of : ofP [[vc, vd], [vb], [va, vb, vc], [vc, vd]] = (exC, 0) := by decide
theorem a_simp : simplC exC 2 = ([[va, vb], [va, vc], [vb, vc], [vc, vd]], 0) := by decide
theorem a_chk : chkC exC = 0 := by decide
theorem a_dim : dimC exC = 2 := by decide
theorem a_pure : sizeP exC = false := by decide
theorem a_euler : eulC exC = (1, 0) := by decide
theorem a_star : starC exC [vc] = (exC, 0) := by decide
theorem a_link : linkC exC [vc] = ([[va, vb], [vd]], 0) := by decide
theorem a_other : linkC exC [va] = ([[vb, vc]], 0) := by decide
theorem a_bnd : bndP [[va, vb, vc], [vb, vc, vd]] = ([[va, vb], [va, vc], [vb, vd], [vc, vd]], 0) := by decide
theorem a_bnd2 : bndP exC = ([], 15) := by decide
set_option maxHeartbeats 16000000 in
theorem awake27_p : Fn Try.prog 10 [] (dB true) := by
  have c1 := of27_p [[vc, vd], [vb], [va, vb, vc], [vc, vd]]
  rw [a_of] at c1
  have c2 := simplices27_p exC 2
  rw [a_simp] at c2
  have c3 := dimensionX_p exC
  rw [a_chk, a_dim, a_pure, if_neg (by decide), if_neg (by decide)] at c3
  have c4 := euler27_p exC
  rw [a_euler] at c4
  have c5 := star27_p exC [vc]
  rw [a_star] at c5
  have c6 := link27_p exC [vc]
  rw [a_link] at c6
  have c7 := link27_p exC [va]
  rw [a_other] at c7
  have c8 := boundary27_p [[va, vb, vc], [vb, vc, vd]]
  rw [a_bnd] at c8
  have c9 := boundary27_p exC
  rw [a_bnd2] at c9
  have s : ∀ l : Cx, Fn Try.prog 26 [dS Simps l, dS Simps l] (dB true) := fun l => by
    have := sameAll_c l l
    rwa [decide_eq_true rfl] at this
  have s2 : ∀ l : Cx, Fn Try.prog 13 [dS Cpx l, dS Cpx l] (dB true) := fun l => by
    have := sameC_c l l
    rwa [decide_eq_true rfl] at this
  refine Fn.intro1 Try.func10 rfl rfl ?_
  show WC _ _ _ (List.replicate 206 (dX undef)) []
  simp only [List.replicate_succ, List.replicate_zero]
  ((repeat' (first | (apply WL.opG; (focus (apply SYG.yes; (exact want_none rfl); (first | (apply SY.move <;> (exact oD)) | (apply SY.assign <;> (exact oD)) | (apply SY.load; (exact tD); (exact OpD.t rfl))))); dsimp only [setD, z0, z1]) | refine WL.nil ?_ | refine WC.seqK fun Kx hK => ?_ | (refine hK _ _ ?_; clear hK) | (refine Kont.skip ?_; clear hK) | refine WC.region ?_ |  (apply WL.storeF4; exact tyV; rfl; exact OpD.t rfl; exact shape_V; dsimp only [setD, z0, z1]) | (apply WL.alloc; (first | exact tzV | exact tzC); (first | exact shape_X rfl | exact shape_XV | exact shape_C0 rfl); (intro _; dsimp only [setD, z0, z1])) | (apply WL.storeF; (exact tD); rfl; (exact oD); (exact hD); dsimp only [setD, z0, z1]) | (apply WL.storeF2; (exact tD); rfl; (exact oD); (exact hD); dsimp only [setD, z0, z1]) | (apply WL.storeF3; (exact tD); rfl; (exact oD); (exact hD); dsimp only [setD, z0, z1]) | (apply WL.opG; (focus (first | (apply SYG.no; first | exact want_notT rfl rfl rfl (by with_reducible rfl) | exact want_notF rfl rfl rfl (by with_reducible rfl)) | (apply SYG.yes; (first | exact want_none rfl | exact want_yes rfl rfl rfl (by with_reducible rfl)); ((first | (apply SY.call (point27_p _) Try.call39; (exact aD)) | (apply SY.call (c1) Try.call30; (exact aD)) | (apply SY.call (c2) Try.call20; (exact aD)) | (apply SY.call (c3) Try.call29; (exact aD)) | (apply SY.call (c4) Try.call22; (exact aD)) | (apply SY.call (c5) Try.call11; (exact aD)) | (apply SY.call (c6) Try.call14; exact ArgsD.cons (OpD.t rfl) (ArgsD.cons (OpD.t rfl) (ArgsD.nil))) | (apply SY.call (c7) Try.call14; exact ArgsD.cons (OpD.t rfl) (ArgsD.cons (OpD.t rfl) (ArgsD.nil))) | (apply SY.call (c8) Try.call18; exact ArgsD.cons (OpD.t rfl) (ArgsD.nil)) | (apply SY.call (c9) Try.call18; exact ArgsD.cons (OpD.t rfl) (ArgsD.nil)) | (apply SY.call (s _) Try.call26; (exact aD)) | (apply SY.call (s2 _) Try.call13; (exact aD)) | exact yMove | exact yAssign | exact yEql | exact yNeq | exact yNot | exact yAdd | exact yLoad | exact yLoadh | exact yFieldaddr | exact yBuild | exact yBuildslice | exact yPick | exact yExtract | fail); all_goals infer_instance)))); dsimp only [setD, z0, z1]) | ((first | refine WL.caseP rfl rfl rfl (fun h => ?_) (fun h => ?_) | refine WL.caseN rfl rfl rfl (fun h => ?_) (fun h => ?_) | refine WL.caseB rfl rfl rfl (fun h => ?_) (fun h => ?_)) <;> (first | (exfalso; first | omega | contradiction) | (dsimp only [z0, z1]))) | (apply WC.condT; (exact oD); (with_reducible rfl)) | (apply WC.condF; (exact oD); (with_reducible rfl)) | (apply WC.condD; (exact oD); (all_goals intro h); (all_goals try (exfalso; first | omega | contradiction))) | (apply WC.condN; (exact oD); (all_goals intro h); (all_goals try (exfalso; first | omega | contradiction))) | (apply WC.condNB; (exact oD); (all_goals intro h); (all_goals try (exfalso; first | omega | contradiction))) | (apply WC.cond; (exact oD); (all_goals intro h); (all_goals try (exfalso; first | omega | contradiction))) | refine WC.skip ?_ | refine WC.ret ?_ | refine ThenD.n ?_ | refine ThenD.r ?_)); all_goals (first | refine WC.id ?_ | refine WL.id ?_ | refine WDs.id ?_ | ((repeat clear hK); (repeat clear Kx))))
  (refine ⟨trivial, _, rfl, ?_⟩; (first | exact fD | refine FinD.i ?_ | refine FinD.b ?_ | refine FinD.rowKE (.head _) ?_ | refine FinD.rowE (.head _) ?_ | refine FinD.nilKE (by decide) ?_ | refine FinD.nilE ?_ | refine FinD.s ?_))
end Go.Proofs.Ytkedmlandjlogaa
namespace Go.Proofs.Ytkedmlandjlogaa
open Go.RowKit
set_option linter.unusedSimpArgs false

set_option maxHeartbeats 2000000
set_option maxRecDepth 100000
def chooseN : Nat → Nat → Nat
  | _, 0 => 1
  | 0, _ + 1 => 0
  | n + 1, k + 1 => chooseN n k + chooseN n (k + 1)
theorem subs_choose : ∀ (s : List Vx) (k : Nat), (subsV k s).length = chooseN s.length k
  | s, 0 => by rw [subsV_zero]; cases s <;> rfl
  | [], k + 1 => by rw [subsV_short _ _ (by simp)]; rfl
  | v :: s, k + 1 => by rw [subsV_next, subs_choose s k, subs_choose s (k + 1)]; rfl
theorem few_len {l : Cx} (h : fewAllV l = true) : l.length ≤ 30 := by
  unfold fewAllV at h
  simp only [Bool.and_eq_true, decide_eq_true_eq] at h
  exact h.1
end Go.Proofs.Ytkedmlandjlogaa
namespace Go.Proofs.Ytkedmlandjlogaa
theorem hasC_iff {l : Cx} {s : List Vx} : hasC' l s = true ↔ ∃ f ∈ l, insideV s f = true := by unfold hasC'; rw [List.any_eq_true]
theorem chk_len {s : List Vx} (h : chkV s = 0) : 0 < s.length ∧ s.length ≤ 8 := by
  obtain ⟨h1, h2, _⟩ := chkV_zero.1 h
  exact ⟨by omega, h2⟩
theorem inside_mem {a b : List Vx} : insideV a b = true ↔ ∀ x ∈ a, x ∈ b := by
  unfold insideV
  rw [List.all_eq_true]
  exact ⟨fun h x hx => of_decide_eq_true (h x hx), fun h x hx => decide_eq_true (h x hx)⟩
theorem all_iff {l : Cx} (hl : ∀ s ∈ l, Asc s) {k : Nat} {x : List Vx} : x ∈ allC l k ↔ Asc x ∧ x.length = k ∧ hasC' l x = true := by
  rw [allC_mem, hasC_iff]
  constructor
  · rintro ⟨f, hf, hx⟩
    obtain ⟨h1, h2⟩ := (subsV_mem _ _ _).1 hx
    have ha : Asc x := List.Pairwise.sublist h1 (hl f hf)
    exact ⟨ha, h2, f, hf, (sub_inside ha (hl f hf)).1 h1⟩
  · rintro ⟨ha, h2, f, hf, h⟩
    exact ⟨f, hf, (subsV_mem _ _ _).2 ⟨(sub_inside ha (hl f hf)).2 h, h2⟩⟩
theorem all_few {l : Cx} {k B : Nat} (h : ∀ s ∈ l, (subsV k s).length ≤ B) : (allC l k).length ≤ B * l.length := by
  have h1 : (allC l k).length ≤ (fcsC l k).length := List.Nodup.length_le_of_subset (allC_asc l _).nodup fun x hx => fcsC_mem.2 hx
  have h2 : ∀ l : Cx, (∀ s ∈ l, (subsV k s).length ≤ B) → (fcsC l k).length ≤ B * l.length := by
    intro l
    induction l with
    | nil => intro _; simp [fcsC]
    | cons s l ih =>
      intro h
      have h3 := ih fun x hx => h x (List.mem_cons_of_mem _ hx)
      have h4 := h s (by simp)
      have h5 : (fcsC (s :: l) k).length = (subsV k s).length + (fcsC l k).length := by unfold fcsC; simp
      rw [h5, List.length_cons, Nat.mul_add, Nat.mul_one]
      omega
  exact Nat.le_trans h1 (h2 l h)
theorem choose_5 : ∀ n ≤ 5, ∀ k ≤ 5, chooseN n k ≤ 10 := by decide
structure Gd (l : Cx) : Prop where
  good : GoodX l
  few : l.length ≤ 30
  five : ∀ s ∈ l, s.length ≤ 5
theorem Gd.all {l : Cx} (h : Gd l) (k : Nat) : (allC l k).length ≤ 300 := by
  have := all_few (l := l) (k := k) (B := 10) fun s hs => by
    have h5 := h.five s hs
    by_cases hk : k ≤ 5
    · rw [subs_choose]; exact choose_5 _ h5 _ hk
    · rw [subsV_short k s (by omega)]; simp
  have := h.few
  omega
theorem Gd.chk {l : Cx} (h : Gd l) : ∀ s ∈ l, chkV s = 0 := h.good.2.2.1
theorem Gd.zero {l : Cx} (h : Gd l) : chkC l = 0 := goodX_iff.2 h.good
theorem Gd.none {l : Cx} (h : Gd l) {k : Nat} (hk : 5 < k) : allC l k = [] := by
  apply List.eq_nil_iff_forall_not_mem.2
  intro x hx
  obtain ⟨f, hf, hx⟩ := allC_mem.1 hx
  rw [subsV_short k f (by have := h.five f hf; omega)] at hx
  simp at hx
theorem eul_is {l : Cx} (h : GoodX l) (hl : ∀ k, (allC l (k + 1)).length ≤ 4096) : eulC l = (eulS l 8, 0) := by
  unfold eulC
  rw [goodX_iff.2 h, if_neg (by omega : ¬ (0 : Int) ≠ 0), if_neg]
  intro hc
  rw [List.any_eq_true] at hc
  obtain ⟨k, _, h2⟩ := hc
  have := of_decide_eq_true h2
  have := hl k
  omega
theorem Gd.eul {l : Cx} (h : Gd l) : eulC l = (eulS l 8, 0) := eul_is h.good fun k => Nat.le_trans (h.all _) (by decide)
end Go.Proofs.Ytkedmlandjlogaa
namespace Go.Proofs.Ytkedmlandjlogaa
set_option linter.unusedSectionVars false
section
variable {V : Type} [DecidableEq V]
def posG : List V → V → Nat
  | [], _ => 0
  | y :: l, x => if y = x then 0 else posG l x + 1
theorem posG_self {a : List V} {x : V} : posG (x :: a) x = 0 := by unfold posG; rw [if_pos rfl]
theorem posG_ne {a : List V} {x y : V} (h : y ≠ x) : posG (y :: a) x = posG a x + 1 := by conv => lhs; unfold posG
                                                                                          rw [if_neg h]
theorem posG_lt : ∀ {a : List V} {x : V}, x ∈ a → posG a x < a.length
  | y :: a, x, h => by
    by_cases h1 : y = x
    · subst h1; rw [posG_self]; simp
    · rw [posG_ne h1, List.length_cons]
      have := posG_lt ((List.mem_cons.1 h).resolve_left fun e => h1 e.symm)
      omega
theorem posG_app : ∀ {a b : List V} {x : V}, posG (a ++ b) x = if x ∈ a then posG a x else posG b x + a.length
  | [], b, x => by simp
  | y :: a, b, x => by
    rw [List.cons_append]
    by_cases h1 : y = x
    · subst h1; rw [posG_self, posG_self, if_pos (by simp)]
    · rw [posG_ne h1, posG_ne h1, posG_app]
      by_cases h2 : x ∈ a
      · rw [if_pos h2, if_pos (List.mem_cons_of_mem _ h2)]
      · rw [if_neg h2, if_neg, List.length_cons]
        · omega
        · rw [List.mem_cons, not_or]; exact ⟨fun e => h1 e.symm, h2⟩
def distG (rs : List V) : List V := rs.foldl (fun seen r => if r ∈ seen then seen else seen ++ [r]) []
theorem dist_app (rs : List V) (r : V) : distG (rs ++ [r]) = if r ∈ distG rs then distG rs else distG rs ++ [r] := by unfold distG; rw [List.foldl_append]; rfl
theorem dist_snoc {rs : List V} {k : Nat} (h : k < rs.length) : distG (rs.take (k + 1)) = if rs[k] ∈ distG (rs.take k) then distG (rs.take k) else distG (rs.take k) ++ [rs[k]] := by rw [take_snoc' h, dist_app]
theorem dist_inv (rs : List V) : (distG rs).Nodup ∧ ∀ x, x ∈ distG rs ↔ x ∈ rs := by
  refine take_ind (P := fun rs => (distG rs).Nodup ∧ ∀ x, x ∈ distG rs ↔ x ∈ rs) ⟨by simp [distG], fun x => by simp [distG]⟩ (fun l a ⟨h1, h2⟩ => ?_) rs
  rw [dist_app]
  by_cases h : a ∈ distG l
  · rw [if_pos h]
    refine ⟨h1, fun x => ?_⟩
    rw [h2, List.mem_append, List.mem_singleton]
    constructor
    · exact .inl
    · rintro (h3 | rfl)
      · exact h3
      · exact (h2 _).1 h
  · rw [if_neg h]
    refine ⟨?_, fun x => ?_⟩
    · rw [List.nodup_append]
      refine ⟨h1, by simp, fun y hy c hc => ?_⟩
      rw [List.mem_singleton.1 hc]
      rintro rfl
      exact h hy
    · rw [List.mem_append, List.mem_append, h2]
theorem dist_len (rs : List V) : (distG rs).length ≤ rs.length := List.Nodup.length_le_of_subset (dist_inv rs).1 fun x hx => ((dist_inv rs).2 x).1 hx
theorem dist_pre (rs es : List V) : ∃ t, distG (rs ++ es) = distG rs ++ t := by
  refine take_ind (P := fun es => ∃ t, distG (rs ++ es) = distG rs ++ t) ⟨[], by simp⟩ (fun l a ⟨t, ht⟩ => ?_) es
  rw [← List.append_assoc, dist_app, ht]
  by_cases h : a ∈ distG rs ++ t
  · rw [if_pos h]; exact ⟨t, rfl⟩
  · rw [if_neg h]; exact ⟨t ++ [a], by simp⟩
theorem idx_app_mem {a b : List V} {x : V} (h : x ∈ a) : posG (a ++ b) x = posG a x := by rw [posG_app, if_pos h]
theorem idx_none {a : List V} {x : V} (h : x ∉ a) : posG a x = a.length := by
  induction a with
  | nil => rfl
  | cons y a ih =>
    rw [List.mem_cons, not_or] at h
    rw [posG_ne (Ne.symm h.1), ih h.2]; rfl
theorem idx_at {rs : List V} {k : Nat} (h : k < rs.length) : posG (distG rs) rs[k] = posG (distG (rs.take k)) rs[k] := by
  obtain ⟨t, ht⟩ := dist_pre (rs.take (k + 1)) (rs.drop (k + 1))
  rw [List.take_append_drop] at ht
  have hm : rs[k] ∈ distG (rs.take (k + 1)) := ((dist_inv _).2 _).2 (by rw [take_snoc' h]; exact List.mem_append_right _ (by simp))
  rw [ht, idx_app_mem hm, dist_snoc h]
  by_cases h1 : rs[k] ∈ distG (rs.take k)
  · rw [if_pos h1]
  · rw [if_neg h1, idx_none h1, posG_app, if_neg h1, posG_self]; simp
theorem idx_inj {a : List V} {x y : V} (hx : x ∈ a) (h : posG a x = posG a y) : x = y := by
  induction a with
  | nil => simp at hx
  | cons z a ih =>
    by_cases h1 : z = x
    · subst h1
      rw [posG_self] at h
      by_cases h2 : z = y
      · exact h2
      · rw [posG_ne h2] at h; omega
    · rw [posG_ne h1] at h
      by_cases h2 : z = y
      · subst h2
        rw [posG_self] at h; omega
      · rw [posG_ne h2] at h
        rcases List.mem_cons.1 hx with hx | hx
        · exact absurd hx.symm h1
        · exact ih hx (by omega)
theorem idx_lt {a : List V} {x : V} (hx : x ∈ a) : posG a x < a.length := posG_lt hx
def numG : Int → List V → List (V × Int)
  | _, [] => []
  | n, r :: rs => (r, n) :: numG (n + 1) rs
theorem numG_keys : ∀ (rs : List V) (n : Int), (numG n rs).map (·.1) = rs
  | [], _ => rfl
  | r :: rs, n => by show r :: (numG (n + 1) rs).map (·.1) = _; rw [numG_keys rs]
theorem numG_len (rs : List V) (n : Int) : (numG n rs).length = rs.length := by
  have := congrArg List.length (numG_keys rs n)
  rwa [List.length_map] at this
theorem numG_app : ∀ (a b : List V) (n : Int), numG n (a ++ b) = numG n a ++ numG (n + a.length) b
  | [], b, n => by simp [numG]
  | r :: a, b, n => by
    show (r, n) :: numG (n + 1) (a ++ b) = (r, n) :: (numG (n + 1) a ++ _)
    rw [numG_app a b]
    have : n + 1 + (a.length : Int) = n + ((r :: a).length : Int) := by rw [List.length_cons]; omega
    rw [this]
theorem numG_look : ∀ (rs : List V) (n : Int) (x : V), lookM (numG n rs) x = if x ∈ rs then some (n + (posG rs x : Int)) else none
  | [], n, x => by simp [numG, lookM]
  | r :: rs, n, x => by
    by_cases h : r = x
    · subst h
      rw [if_pos (by simp), posG_self]
      unfold lookM numG
      rw [List.find?_cons_of_pos (by simp)]
      simp
    · have h1 := numG_look rs (n + 1) x
      have e : lookM (numG n (r :: rs)) x = lookM (numG (n + 1) rs) x := by
        unfold lookM
        conv => lhs; unfold numG
        rw [List.find?_cons_of_neg (by simpa using h)]
      rw [e, h1, posG_ne h]
      by_cases h2 : x ∈ rs
      · rw [if_pos h2, if_pos (List.mem_cons_of_mem _ h2)]
        congr 1
        omega
      · rw [if_neg h2, if_neg]
        rw [List.mem_cons, not_or]
        exact ⟨fun h3 => h h3.symm, h2⟩
end
def hdV (s : List Vx) : Vx := s.headD (0, 0)
def edgS (s : List Vx) : List (Vx × Vx) := (s.drop 1).map fun v => (hdV s, v)
def edgC (l : Cx) : List (Vx × Vx) := l.flatMap edgS
def ufC (l : Cx) : List (Vx × Vx) := joinsM [] (edgC l)
def rootC (l : Cx) (s : List Vx) : Vx := repM (ufC l) (hdV s)
def rootsC (l : Cx) : List Vx := l.map (rootC l)
def numC (l : Cx) (s : List Vx) : Nat := posG (distG (rootsC l)) (rootC l s)
def compC (l : Cx) : List Int := l.map fun s => (numC l s : Int)
def partsN (l : Cx) : Nat := (distG (rootsC l)).length
theorem edgC_snoc {l : Cx} {i : Nat} (h : i < l.length) : edgC (l.take (i + 1)) = edgC (l.take i) ++ edgS l[i] := by unfold edgC; rw [take_snoc' h, List.flatMap_append]; simp
theorem edgC_mem {l : Cx} {e : Vx × Vx} : e ∈ edgC l ↔ ∃ f ∈ l, e.1 = hdV f ∧ e.2 ∈ f.drop 1 := by
  unfold edgC edgS
  rw [List.mem_flatMap]
  constructor
  · rintro ⟨f, hf, he⟩
    obtain ⟨v, hv, rfl⟩ := List.mem_map.1 he
    exact ⟨f, hf, rfl, hv⟩
  · rintro ⟨f, hf, h1, h2⟩
    exact ⟨f, hf, List.mem_map.2 ⟨e.2, h2, by rw [← h1]⟩⟩
theorem hd_mem {s : List Vx} (h : 0 < s.length) : hdV s ∈ s := by
  cases s with
  | nil => simp at h
  | cons v s => simp [hdV]
theorem mem_hd {s : List Vx} {v : Vx} (h : v ∈ s) : v = hdV s ∨ v ∈ s.drop 1 := by
  cases s with
  | nil => simp at h
  | cons u s => simpa [hdV] using h
theorem rep_in {l : Cx} {s : List Vx} (hs : s ∈ l) {v : Vx} (hv : v ∈ s) : repM (ufC l) v = rootC l s := by
  rcases mem_hd hv with rfl | h
  · rfl
  · exact ((conn_iff (edgC l) _ _).2 (.step (.refl _) (.inl (edgC_mem.2 ⟨s, hs, rfl, h⟩)))).symm
theorem root_shared {l : Cx} {s t : List Vx} (hs : s ∈ l) (ht : t ∈ l) {v : Vx} (h1 : v ∈ s) (h2 : v ∈ t) : rootC l s = rootC l t := by rw [← rep_in hs h1, rep_in ht h2]
theorem root_mem {l : Cx} {s : List Vx} (hs : s ∈ l) : rootC l s ∈ distG (rootsC l) := ((dist_inv _).2 _).2 (List.mem_map_of_mem hs)
theorem num_root {l : Cx} {s t : List Vx} (hs : s ∈ l) (h : numC l s = numC l t) : rootC l s = rootC l t := idx_inj (root_mem hs) h
theorem num_shared {l : Cx} {s t : List Vx} (hs : s ∈ l) (ht : t ∈ l) {v : Vx} (h1 : v ∈ s) (h2 : v ∈ t) : numC l s = numC l t := by unfold numC; rw [root_shared hs ht h1 h2]
theorem num_lt {l : Cx} {s : List Vx} (hs : s ∈ l) : numC l s < partsN l := idx_lt (root_mem hs)
theorem num_at {l : Cx} {i : Nat} (h : i < l.length) : numC l l[i] = posG (distG ((rootsC l).take i)) (rootC l l[i]) := by
  have := idx_at (rs := rootsC l) (k := i) (by simpa [rootsC] using h)
  simpa [rootsC, numC] using this
theorem num_le {l : Cx} {i : Nat} (h : i < l.length) : numC l l[i] ≤ (distG ((rootsC l).take i)).length := by
  rw [num_at h]
  by_cases h1 : rootC l l[i] ∈ distG ((rootsC l).take i)
  · exact Nat.le_of_lt (idx_lt h1)
  · rw [idx_none h1]; exact Nat.le_refl _
def partC (l : Cx) (j : Nat) : Cx := l.filter fun s => decide (numC l s = j)
theorem conn_part {l p : Cx} {u w : Vx} (h : Conn (edgC l) u w) (hp : ∀ f ∈ l, rootC l f = repM (ufC l) u → f ∈ p) : Conn (edgC p) u w := by
  induction h with
  | refl => exact .refl _
  | step h e ih =>
    rename_i v w
    have h1 := (conn_iff (edgC l) _ _).2 h
    refine ih.step ?_
    rcases e with e | e
    · obtain ⟨f, hf, e1, e2⟩ := edgC_mem.1 e
      refine .inl (edgC_mem.2 ⟨f, hp f hf ?_, e1, e2⟩)
      show repM (ufC l) (hdV f) = _
      rw [← (show v = hdV f from e1)]
      exact h1.symm
    · obtain ⟨f, hf, e1, e2⟩ := edgC_mem.1 e
      refine .inr (edgC_mem.2 ⟨f, hp f hf ?_, e1, e2⟩)
      have e3 : v ∈ f := List.mem_of_mem_drop e2
      rw [← rep_in hf e3]
      exact h1.symm
theorem part_one {l : Cx} {j : Nat} {s t : List Vx} (hs : s ∈ partC l j) (ht : t ∈ partC l j) : rootC (partC l j) s = rootC (partC l j) t := by
  obtain ⟨hs1, hs2⟩ := List.mem_filter.1 hs
  obtain ⟨ht1, ht2⟩ := List.mem_filter.1 ht
  have hs2 := of_decide_eq_true hs2
  have ht2 := of_decide_eq_true ht2
  have h1 : rootC l s = rootC l t := num_root hs1 (by rw [hs2, ht2])
  have h2 := (conn_iff (edgC l) (hdV s) (hdV t)).1 h1
  refine (conn_iff (edgC (partC l j)) (hdV s) (hdV t)).2 (conn_part h2 fun f hf hr => ?_)
  refine List.mem_filter.2 ⟨hf, decide_eq_true ?_⟩
  have : rootC l f = rootC l s := hr
  unfold numC at hs2 ⊢
  rw [this]; exact hs2
theorem one_num {l : Cx} (h : ∀ s ∈ l, ∀ t ∈ l, rootC l s = rootC l t) {s : List Vx} (hs : s ∈ l) : numC l s = 0 := by
  have hm := root_mem hs
  unfold numC
  have hi := dist_inv (rootsC l)
  generalize distG (rootsC l) = D at hm hi
  cases D with
  | nil => simp at hm
  | cons r D =>
    have hr : r ∈ rootsC l := (hi.2 r).1 (by simp)
    obtain ⟨t, ht, rfl⟩ := List.mem_map.1 hr
    rw [h s hs t ht, posG_self]
theorem part_zero (l : Cx) (j : Nat) : ∀ n ∈ compC (partC l j), n = 0 := fun n hn => by
  obtain ⟨s, hs, rfl⟩ := List.mem_map.1 hn
  rw [one_num (fun s hs t ht => part_one hs ht) hs]; rfl
theorem Gd.part {l : Cx} (h : Gd l) (j : Nat) : Gd (partC l j) :=
  ⟨good_sub h.good List.filter_sublist, Nat.le_trans (List.length_filter_le _ _) h.few, fun s hs => h.five s (List.mem_filter.1 hs).1⟩
theorem all_part {l : Cx} (hl : ∀ s ∈ l, Asc s) (k j : Nat) : allC (partC l j) (k + 1) = (allC l (k + 1)).filter fun x => decide (posG (distG (rootsC l)) (repM (ufC l) (hdV x)) = j) := by
  refine ascL_ext (allC_asc _ _) (List.Pairwise.filter _ (allC_asc _ _)) fun x => ?_
  rw [List.mem_filter, all_iff (l := partC l j) fun s hs => hl s (List.mem_filter.1 hs).1, all_iff hl, decide_eq_true_iff]
  have key : ∀ f ∈ l, x.length = k + 1 → insideV x f = true → numC l f = posG (distG (rootsC l)) (repM (ufC l) (hdV x)) := fun f hf hx hi => by
    have := rep_in hf (inside_mem.1 hi _ (hd_mem (s := x) (by omega)))
    unfold numC
    rw [this]
  constructor
  · rintro ⟨h1, h2, h3⟩
    obtain ⟨f, hf, hi⟩ := hasC_iff.1 h3
    obtain ⟨hf, hj⟩ := List.mem_filter.1 hf
    exact ⟨⟨h1, h2, hasC_iff.2 ⟨f, hf, hi⟩⟩, by rw [← key f hf h2 hi]; exact of_decide_eq_true hj⟩
  · rintro ⟨⟨h1, h2, h3⟩, h4⟩
    obtain ⟨f, hf, hi⟩ := hasC_iff.1 h3
    exact ⟨h1, h2, hasC_iff.2 ⟨f, List.mem_filter.2 ⟨hf, decide_eq_true ((key f hf h2 hi).trans h4)⟩, hi⟩⟩
def sumR (n : Nat) (f : Nat → Int) : Int := ((List.range n).map f).sum
theorem sumR_succ (n : Nat) (f : Nat → Int) : sumR (n + 1) f = sumR n f + f n := by unfold sumR; rw [List.range_succ, List.map_append, List.sum_append]; simp
theorem sumR_add (n : Nat) (f g : Nat → Int) : sumR n (fun j => f j + g j) = sumR n f + sumR n g := by
  induction n with
  | zero => rfl
  | succ n ih => rw [sumR_succ, sumR_succ, sumR_succ, ih]; omega
theorem sumR_sub (n : Nat) (f g : Nat → Int) : sumR n (fun j => f j - g j) = sumR n f - sumR n g := by
  induction n with
  | zero => rfl
  | succ n ih => rw [sumR_succ, sumR_succ, sumR_succ, ih]; omega
theorem sumR_zero (n : Nat) : sumR n (fun _ => 0) = 0 := by
  induction n with
  | zero => rfl
  | succ n ih => rw [sumR_succ, ih]; rfl
theorem len_two {α : Type} (g : α → Nat) (n : Nat) : ∀ L : List α, ((L.filter fun x => decide (g x < n)).length : Int) + ((L.filter fun x => decide (g x = n)).length : Int) = ((L.filter fun x => decide (g x < n + 1)).length : Int)
  | [] => rfl
  | x :: L => by
    have ih := len_two g n L
    simp only [List.filter_cons, decide_eq_true_eq]
    by_cases h1 : g x < n
    · rw [if_pos h1, if_neg (by omega), if_pos (by omega), List.length_cons, List.length_cons]; omega
    · by_cases h2 : g x = n
      · rw [if_neg h1, if_pos h2, if_pos (by omega), List.length_cons, List.length_cons]; omega
      · rw [if_neg h1, if_neg h2, if_neg (by omega)]; exact ih
theorem len_split {α : Type} (g : α → Nat) (L : List α) (n : Nat) : sumR n (fun j => ((L.filter fun x => decide (g x = j)).length : Int)) = ((L.filter fun x => decide (g x < n)).length : Int) := by
  induction n with
  | zero =>
    have : (L.filter fun x => decide (g x < 0)) = [] := by rw [List.filter_eq_nil_iff]; intro x _; simp
    rw [this]; rfl
  | succ n ih => rw [sumR_succ, ih, len_two]
theorem all_split {l : Cx} (hl : ∀ s ∈ l, Asc s) (k : Nat) : sumR (partsN l) (fun j => ((allC (partC l j) (k + 1)).length : Int)) = ((allC l (k + 1)).length : Int) := by
  have e : (fun j => ((allC (partC l j) (k + 1)).length : Int)) = fun j => (((allC l (k + 1)).filter fun x => decide (posG (distG (rootsC l)) (repM (ufC l) (hdV x)) = j)).length : Int) := by
    funext j; rw [all_part hl]
  rw [e, len_split]
  congr 2
  rw [List.filter_eq_self]
  intro x hx
  obtain ⟨h1, h2, h3⟩ := (all_iff hl).1 hx
  obtain ⟨f, hf, hi⟩ := hasC_iff.1 h3
  rw [rep_in hf (inside_mem.1 hi _ (hd_mem (s := x) (by omega)))]
  exact decide_eq_true (num_lt hf)
theorem eul_split {l : Cx} (hl : ∀ s ∈ l, Asc s) : ∀ k, sumR (partsN l) (fun j => eulS (partC l j) k) = eulS l k
  | 0 => sumR_zero _
  | k + 1 => by
    have h1 := eul_split hl k
    have h2 := all_split hl k
    by_cases hk : (k + 1) % 2 = 1
    · have e : (fun j => eulS (partC l j) (k + 1)) = fun j => eulS (partC l j) k + ((allC (partC l j) (k + 1)).length : Int) := by funext j; show (if (k + 1) % 2 = 1 then _ else _) = _; rw [if_pos hk]
      rw [e, sumR_add, h1, h2]
      show _ = if (k + 1) % 2 = 1 then _ else _
      rw [if_pos hk]
    · have e : (fun j => eulS (partC l j) (k + 1)) = fun j => eulS (partC l j) k - ((allC (partC l j) (k + 1)).length : Int) := by funext j; show (if (k + 1) % 2 = 1 then _ else _) = _; rw [if_neg hk]
      rw [e, sumR_sub, h1, h2]
      show _ = if (k + 1) % 2 = 1 then _ else _
      rw [if_neg hk]
theorem sum_perm {a b : List Nat} (h : a.Perm b) (f : Nat → Int) : (a.map f).sum = (b.map f).sum := by
  induction h with
  | nil => rfl
  | cons x _ ih => simp only [List.map_cons, List.sum_cons, ih]
  | swap x y l => simp only [List.map_cons, List.sum_cons]; omega
  | trans _ _ h1 h2 => exact h1.trans h2
theorem sum_seen {seen : List Nat} {n : Nat} (hn : seen.Nodup) (h1 : ∀ j ∈ seen, j < n) (h2 : ∀ j, j < n → j ∈ seen) (f : Nat → Int) : (seen.map f).sum = sumR n f := by
  refine sum_perm ((List.perm_ext_iff_of_nodup hn List.nodup_range).2 fun j => ?_) f
  rw [List.mem_range]
  exact ⟨h1 j, h2 j⟩
theorem eul_abs {l : Cx} {B : Nat} (h : ∀ k, (allC l (k + 1)).length ≤ B) : ∀ k : Nat, -(((B * k : Nat)) : Int) ≤ eulS l k ∧ eulS l k ≤ ((B * k : Nat) : Int)
  | 0 => by show _ ≤ (0 : Int) ∧ (0 : Int) ≤ _; rw [Nat.mul_zero]; omega
  | k + 1 => by
    have h1 := eul_abs h k
    have h2 := h k
    have h3 : B * (k + 1) = B * k + B := Nat.mul_succ _ _
    rw [h3]
    generalize B * k = C at *
    show -_ ≤ (if (k + 1) % 2 = 1 then eulS l k + ((allC l (k + 1)).length : Int) else eulS l k - ((allC l (k + 1)).length : Int)) ∧ (if (k + 1) % 2 = 1 then eulS l k + ((allC l (k + 1)).length : Int) else eulS l k - ((allC l (k + 1)).length : Int)) ≤ _
    split <;> omega
theorem Gd.abs {l : Cx} (h : Gd l) : -2400 ≤ eulS l 8 ∧ eulS l 8 ≤ 2400 := by
  have := eul_abs (l := l) (B := 300) (fun k => h.all (k + 1)) 8
  omega
end Go.Proofs.Ytkedmlandjlogaa
