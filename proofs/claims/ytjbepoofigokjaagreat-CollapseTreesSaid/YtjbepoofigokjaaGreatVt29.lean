/-
  Part 29 of the texts that the claims of this seat lean on: walks of the program's functions by contracts over symbolic frames, and plain laws of what they compute. No condition.
-/
import Derived.Test.YtjbepoofigokjaaGreatVt20
import Derived.Test.YtjbepoofigokjaaGreatVt28
set_option linter.unusedVariables false
set_option linter.unusedSimpArgs false
set_option linter.unusedSectionVars false
namespace Go.Proofs.YtjbepoofigokjaaGreat
theorem ascK_ext : ∀ {a b : List Cl}, AscK a → AscK b → (∀ x, x ∈ a ↔ x ∈ b) → a = b
  | [], [], _, _, _ => rfl
  | [], y :: b, _, _, h => absurd ((h y).2 (by simp)) (by simp)
  | x :: a, [], _, _, h => absurd ((h x).1 (by simp)) (by simp)
  | x :: a, y :: b, ha, hb, h => by
    unfold AscK at ha hb
    rw [List.pairwise_cons] at ha hb
    have hxy : x = y := by
      have h1 := (h x).1 (by simp)
      have h2 := (h y).2 (by simp)
      rw [List.mem_cons] at h1 h2
      rcases h1 with h1 | h1
      · exact h1
      rcases h2 with h2 | h2
      · exact h2.symm
      exact absurd (hb.1 x h1) (cmp_asym (ha.1 y h2))
    subst hxy
    rw [ascK_ext ha.2 hb.2 fun z => ?_]
    have h1 := h z
    rw [List.mem_cons, List.mem_cons] at h1
    constructor
    · intro hz
      rcases h1.1 (.inr hz) with rfl | h2
      · have := ha.1 z hz; have := cmpL_irr z.1; omega
      · exact h2
    · intro hz
      rcases h1.2 (.inr hz) with rfl | h2
      · have := hb.1 z hz; have := cmpL_irr z.1; omega
      · exact h2
theorem sort_asc {l : List Cl} (hs : SortK l) (hn : l.Nodup) (hf : ∀ x ∈ l, ∀ y ∈ l, x.1 = y.1 → x = y) : AscK l := by
  unfold SortK at hs
  unfold AscK
  rw [List.pairwise_iff_getElem] at hs ⊢
  intro i j hi hj hij
  have h1 := hs i j hi hj hij
  have h2 : l[i] ≠ l[j] := fun e => by
    have := (List.pairwise_iff_getElem.1 hn) i j hi hj hij
    exact this e
  rcases cmpL_cases l[i].1 l[j].1 with h | h | h
  · exact h
  · exact absurd h h1
  · exact absurd (hf _ (List.getElem_mem hi) _ (List.getElem_mem hj) h) h2
theorem flatK_nodup {f : List Vx → List Cl} : ∀ {l : Cx}, l.Nodup → (∀ s ∈ l, (f s).Nodup) → (∀ s ∈ l, ∀ x ∈ f s, x.2 = s) → (l.flatMap f).Nodup
  | [], _, _, _ => List.Pairwise.nil
  | s :: l, hn, h1, h2 => by
    rw [List.nodup_cons] at hn
    rw [List.flatMap_cons, List.nodup_append]
    refine ⟨h1 s (List.mem_cons_self ..), flatK_nodup hn.2 (fun t ht => h1 t (List.mem_cons_of_mem _ ht)) (fun t ht => h2 t (List.mem_cons_of_mem _ ht)), fun a ha b hb e => ?_⟩
    subst e
    obtain ⟨t, ht, hm⟩ := List.mem_flatMap.1 hb
    have e1 := h2 s (List.mem_cons_self ..) a ha
    have e2 := h2 t (List.mem_cons_of_mem _ ht) a hm
    rw [e1] at e2
    subst e2
    exact hn.1 ht
theorem pairs_nodup {l : Cx} (G : GoodX l) : (pairsC l).Nodup := by
  unfold pairsC prK
  rw [(foldK_perm _ _).nodup_iff, List.append_nil]
  refine flatK_nodup G.2.1.nodup (fun s hs => ?_) fun s _ x hx => ?_
  · unfold offK
    split
    · exact List.Pairwise.nil
    · unfold rowK
      refine List.pairwise_map.2 (List.Pairwise.imp (fun {a b} hab e => hab (by injection e)) ((subs_nodup (G.asc s hs) _).filter _))
  · unfold offK at hx
    split at hx
    · cases hx
    · exact (rowK_mem.1 hx).1
theorem pairs_asc {l : Cx} (G : GoodX l) : AscK (pairsC l) := by
  refine sort_asc (foldK_sort _ List.Pairwise.nil) (pairs_nodup G) fun x hx y hy e => ?_
  have h1 := pair_ok G hx
  have h2 := pair_ok G hy
  have a1 := (chkV_zero.1 h1.chk1).2.2.2
  refine Prod.ext e ?_
  exact h2.one _ h1.mem (by rw [← e]; exact (sub_inside a1 (G.asc _ h1.mem)).1 h1.sub)
def freeV (l : Cx) (s : List Vx) : List Cl := if s.length = 1 then [] else ((List.range s.length).filter fun i => decide ((lookM (cntK l) (remV s i)).getD 0 = 1)).map fun i => (remV s i, s)
def freeP (l : Cx) : List Cl := l.flatMap (freeV l)
theorem remV_get {s : List Vx} {i j : Nat} (hj : j < s.length) (hij : i < j) : (remV s j)[i]? = s[i]? := by
  unfold remV
  rw [List.getElem?_append_left (by rw [List.length_take]; omega), List.getElem?_take, if_pos hij]
theorem remV_get2 {s : List Vx} {i : Nat} (hi : i < s.length) : (remV s i)[i]? = s[i + 1]? := by
  unfold remV
  rw [List.getElem?_append_right (by rw [List.length_take]; omega), List.length_take, List.getElem?_drop]
  congr 1; omega
theorem remV_inj {s : List Vx} (hn : s.Nodup) {i j : Nat} (hj : j < s.length) (hij : i < j) : remV s i ≠ remV s j := fun e => by
  have h1 := remV_get hj hij
  rw [← e, remV_get2 (by omega), List.getElem?_eq_getElem (by omega), List.getElem?_eq_getElem (by omega)] at h1
  have := (List.pairwise_iff_getElem.1 hn) i (i + 1) (by omega) (by omega) (by omega)
  exact this (Option.some.inj h1).symm
theorem freeP_nodup {l : Cx} (G : GoodX l) : (freeP l).Nodup := by
  unfold freeP
  refine flatK_nodup G.2.1.nodup (fun s hs => ?_) fun s _ x hx => ?_
  · unfold freeV
    split
    · exact List.Pairwise.nil
    · refine List.pairwise_map.2 ?_
      refine List.Pairwise.imp_of_mem (fun {a b} ha hb hab e => ?_) (List.pairwise_lt_range.filter _)
      have hb' := List.mem_range.1 (List.mem_filter.1 hb).1
      exact remV_inj (asc_nd (G.asc s hs)) hb' hab (by injection e)
  · unfold freeV at hx
    split at hx
    · cases hx
    · obtain ⟨i, _, rfl⟩ := List.mem_map.1 hx; rfl
theorem remV_all {s t : List Vx} (hs : 0 < s.length) : t ∈ subsV (s.length - 1) s ↔ ∃ i, i < s.length ∧ t = remV s i := by
  rw [subsV_mem]
  constructor
  · rintro ⟨h1, h2⟩
    induction h1 with
    | slnil => simp at hs
    | @cons t s a h ih =>
      rw [List.length_cons] at h2
      have : t = s := h.eq_of_length (by omega)
      subst this
      exact ⟨0, by simp, by simp [remV]⟩
    | @cons_cons t s a h ih =>
      rw [List.length_cons, List.length_cons] at h2
      obtain ⟨i, hi, he⟩ := ih (by omega) (by omega)
      exact ⟨i + 1, by rw [List.length_cons]; omega, by rw [he]; simp [remV]⟩
  · rintro ⟨i, hi, rfl⟩
    exact ⟨remV_sub s i, remV_len hi⟩
theorem free_mem {l : Cx} (G : GoodX l) {x : Cl} : x ∈ freeP l ↔ x ∈ pairsC l := by
  rw [pairs_mem]
  unfold freeP
  rw [List.mem_flatMap]
  have key : ∀ s ∈ l, s.length ≠ 1 → ∀ i, i < s.length → ((lookM (cntK l) (remV s i)).getD 0 = 1 ↔ abvC l (remV s i) = 1) := fun s hs h1 i hi => by
    have hp := chk_len (G.2.2.1 s hs)
    have hlen := remV_len hi
    have hmem : remV s i ∈ offsC l := List.mem_flatMap.2 ⟨s, hs, by unfold offsV; rw [if_pos (by omega)]; exact List.mem_map.2 ⟨i, List.mem_range.2 hi, rfl⟩⟩
    have ha : Asc (remV s i) := (G.asc s hs).sublist (remV_sub s i)
    have hnl : remV s i ∉ l := fun hm => by
      have := inside_anti G hm hs ((sub_inside ha (G.asc s hs)).1 (remV_sub s i))
      have := congrArg List.length this
      omega
    rw [cntK_look, if_pos hmem, count_abv G ha (by omega) hnl]
    simp
    omega
  constructor
  · rintro ⟨s, hs, hx⟩
    unfold freeV at hx
    split at hx
    · cases hx
    · next h1 =>
      obtain ⟨i, hi, rfl⟩ := List.mem_map.1 hx
      obtain ⟨hi, hc⟩ := List.mem_filter.1 hi
      have hi := List.mem_range.1 hi
      have hp := chk_len (G.2.2.1 s hs)
      exact ⟨hs, h1, (remV_all hp.1).2 ⟨i, hi, rfl⟩, (key s hs h1 i hi).1 (of_decide_eq_true hc)⟩
  · rintro ⟨h1, h2, h3, h4⟩
    have hp := chk_len (G.2.2.1 _ h1)
    obtain ⟨i, hi, he⟩ := (remV_all hp.1).1 h3
    refine ⟨x.2, h1, ?_⟩
    unfold freeV
    rw [if_neg h2]
    refine List.mem_map.2 ⟨i, List.mem_filter.2 ⟨List.mem_range.2 hi, decide_eq_true ((key _ h1 h2 i hi).2 (by rw [← he]; exact h4))⟩, ?_⟩
    rw [← he]
theorem free_sorted {l : Cx} (G : GoodX l) {ys : List Cl} (hp : ys.Perm (freeP l)) (hs : SortK ys) : ys = pairsC l := by
  have hm : ∀ x, x ∈ ys ↔ x ∈ pairsC l := fun x => (hp.mem_iff).trans (free_mem G)
  have ha := pairs_asc G
  refine ascK_ext (sort_asc hs (hp.nodup_iff.2 (freeP_nodup G)) fun x hx y hy e => ?_) ha hm
  have h1 := pair_ok G ((hm x).1 hx)
  have h2 := pair_ok G ((hm y).1 hy)
  have a1 := (chkV_zero.1 h1.chk1).2.2.2
  refine Prod.ext e ?_
  exact h2.one _ h1.mem (by rw [← e]; exact (sub_inside a1 (G.asc _ h1.mem)).1 h1.sub)
end Go.Proofs.YtjbepoofigokjaaGreat
namespace Go.Proofs.YtjbepoofigokjaaGreat
def restC (l : Cx) (x : Cl) : Cx := l.filter fun f => decide (f ≠ x.2)
def aftL (l : Cx) (x : Cl) : Cx := restC l x ++ ((List.range x.2.length).map (remV x.2)).filter fun y => !(restC l x).any (fun s => insideV y s) && decide (y ≠ x.1)
theorem sortL_asc {l : Cx} (hs : SortL l) (hn : l.Nodup) : AscL l := by
  unfold SortL at hs
  unfold AscL
  rw [List.pairwise_iff_getElem] at hs ⊢
  intro i j hi hj hij
  have h1 := hs i j hi hj hij
  have h2 : l[i] ≠ l[j] := fun e => (List.pairwise_iff_getElem.1 hn) i j hi hj hij e
  rcases cmpL_cases l[i] l[j] with h | h | h
  · exact h
  · exact absurd h h1
  · exact absurd h h2
theorem rems_nodup {s : List Vx} (hs : Asc s) : ((List.range s.length).map (remV s)).Nodup := by
  refine List.pairwise_map.2 ?_
  refine List.Pairwise.imp_of_mem (fun {a b} _ hb hab e => ?_) List.pairwise_lt_range
  exact remV_inj (asc_nd hs) (List.mem_range.1 hb) hab e
theorem aft_nodup {l : Cx} (G : GoodX l) {x : Cl} (hx : PairOk l x) : (aftL l x).Nodup := by
  have a2 := G.asc _ hx.mem
  unfold aftL
  rw [List.nodup_append]
  refine ⟨G.2.1.nodup.filter _, (rems_nodup a2).filter _, fun a ha b hb e => ?_⟩
  subst e
  obtain ⟨h1, h2⟩ := List.mem_filter.1 ha
  obtain ⟨i, hi, rfl⟩ := List.mem_map.1 (List.mem_filter.1 hb).1
  exact of_decide_eq_true h2 (inside_anti G h1 hx.mem ((sub_inside (G.asc _ h1) a2).1 (remV_sub _ _)))
theorem aft_mem {l : Cx} (G : GoodX l) {x : Cl} (hx : PairOk l x) {t : List Vx} : t ∈ aftL l x ↔ t ∈ leftC l x := by
  have a2 := G.asc _ hx.mem
  have p2 := chk_len hx.chk2
  have ln := hx.len
  have p1 := chk_len hx.chk1
  unfold leftC
  rw [maxC_mem]
  unfold aftL
  have hsub : ∀ u ∈ subsV (x.2.length - 1) x.2, Asc u ∧ insideV u x.2 = true ∧ u.length + 1 = x.2.length := fun u hu => by
    obtain ⟨q1, q2, q3⟩ := face_good hx.chk2 (by omega) hu
    have q4 := (chkV_zero.1 q1).2.2.2
    exact ⟨q4, (sub_inside q4 a2).1 q2, by omega⟩
  constructor
  · intro h
    rcases List.mem_append.1 h with h | h
    · obtain ⟨h1, h2⟩ := List.mem_filter.1 h
      have h2 := of_decide_eq_true h2
      refine ⟨List.mem_append.2 (.inl h), ?_⟩
      have hc : ¬ coveredC ((l.filter fun f => decide (f ≠ x.2)) ++ (subsV (x.2.length - 1) x.2).filter fun t => decide (t ≠ x.1)) t = true := fun hc => by
        obtain ⟨f, hf, hlt, hi⟩ := coveredC_iff.1 hc
        rcases List.mem_append.1 hf with hf | hf
        · have := inside_anti G h1 (List.mem_filter.1 hf).1 hi
          rw [this] at hlt; omega
        · exact h2 (inside_anti G h1 hx.mem (inside_trans hi (hsub f (List.mem_filter.1 hf).1).2.1))
      have := chk_len (G.2.2.1 _ h1)
      unfold topC
      rw [decide_eq_true (by omega), Bool.eq_false_iff.2 hc]
      rfl
    · obtain ⟨h1, h2⟩ := List.mem_filter.1 h
      rw [Bool.and_eq_true, Bool.not_eq_true', decide_eq_true_eq] at h2
      obtain ⟨i, hi, rfl⟩ := List.mem_map.1 h1
      have hi := List.mem_range.1 hi
      have hm := (remV_all p2.1).2 ⟨i, hi, rfl⟩
      refine ⟨List.mem_append.2 (.inr (List.mem_filter.2 ⟨hm, decide_eq_true h2.2⟩)), ?_⟩
      have hc : ¬ coveredC ((l.filter fun f => decide (f ≠ x.2)) ++ (subsV (x.2.length - 1) x.2).filter fun t => decide (t ≠ x.1)) (remV x.2 i) = true := fun hc => by
        obtain ⟨f, hf, hlt, hin⟩ := coveredC_iff.1 hc
        rcases List.mem_append.1 hf with hf | hf
        · have h3 := h2.1
          rw [List.any_eq_false] at h3
          exact h3 f hf hin
        · have h4 := (hsub f (List.mem_filter.1 hf).1).2.2
          have h5 := remV_len hi
          omega
      have := remV_len hi
      unfold topC
      rw [decide_eq_true (by omega), Bool.eq_false_iff.2 hc]
      rfl
  · rintro ⟨h1, h2⟩
    rcases List.mem_append.1 h1 with h1 | h1
    · exact List.mem_append.2 (.inl h1)
    · obtain ⟨h3, h4⟩ := List.mem_filter.1 h1
      have h4 := of_decide_eq_true h4
      obtain ⟨q1, q2, q3⟩ := hsub t h3
      obtain ⟨i, hi, rfl⟩ := (remV_all p2.1).1 h3
      refine List.mem_append.2 (.inr (List.mem_filter.2 ⟨List.mem_map.2 ⟨i, List.mem_range.2 hi, rfl⟩, ?_⟩))
      rw [Bool.and_eq_true, Bool.not_eq_true', decide_eq_true_eq]
      refine ⟨?_, h4⟩
      rw [List.any_eq_false]
      intro f hf hin
      obtain ⟨f1, f2⟩ := List.mem_filter.1 hf
      have hne : remV x.2 i ≠ f := fun e => by
        rw [e] at q2
        exact of_decide_eq_true f2 (inside_anti G f1 hx.mem q2)
      have hlt := inside_lt q1 (G.asc f f1) hin hne
      have hc : coveredC ((l.filter fun f => decide (f ≠ x.2)) ++ (subsV (x.2.length - 1) x.2).filter fun t => decide (t ≠ x.1)) (remV x.2 i) = true := coveredC_iff.2 ⟨f, List.mem_append.2 (.inl hf), hlt, hin⟩
      unfold topC at h2
      rw [hc] at h2
      simp at h2
theorem aft_sorted {l : Cx} (G : GoodX l) {x : Cl} (hx : PairOk l x) {zs : Cx} (hp : zs.Perm (aftL l x)) (hs : SortL zs) : zs = leftC l x :=
  ascL_ext (sortL_asc hs (hp.nodup_iff.2 (aft_nodup G hx))) (maxC_asc _) fun _ => (hp.mem_iff).trans (aft_mem G hx)
end Go.Proofs.YtjbepoofigokjaaGreat
namespace Go.Proofs.YtjbepoofigokjaaGreat
open Go.RowKit
structure YStepE (P : Program) (l : Nat) {α : Type} (D : α → Dat) (J E : List α → List HObj → Prop) (N : Nat) : Prop where
  out : ∀ (P0 : Nat → Prop) (B : Nat) (w0 : World) (hp : List HObj) (pre : List α) (js : List HObj) (x : α) (u : Value) (W : World), pre.length < N → J pre js → Hp P0 B w0 (js ++ hp) W → (D x).rd (Imm P0 B (js ++ hp)) W u →
    YieldAt Fence.wide 0 P l #[u] W fun e W' => ∃ b : Bool, e = .returned (.bool b) ∧ ∃ js', (if b = true then J (pre ++ [x]) js' else E (pre ++ [x]) js') ∧ Hp P0 B w0 (js' ++ hp) W'
structure SeqE (P : Program) (gf : FuncId) (lb : List Value) (hk : List HObj) {α : Type} (D : α → Dat) (xs : List α) : Prop where
  out : ∀ (l : Nat) (J E : List α → List HObj → Prop), YStepE P l D J E xs.length → ∀ js, J [] js → CallC P gf (dX (.func (.yield l) #[] #[]) :: lb.map dX) (js ++ hk) (fun _ hp2 => ∃ js', (J xs js' ∨ ∃ pre x t, xs = pre ++ x :: t ∧ E (pre ++ [x]) js') ∧ hp2 = js' ++ hk)
theorem CallC.monoK {P : Program} {f : FuncId} {ds : List Dat} {hp1 : List HObj} {K K' : Dat → List HObj → Prop} (h : CallC P f ds hp1 K) (k : ∀ d hp2, K d hp2 → K' d hp2) : CallC P f ds hp1 K' :=
  ⟨fun P0 B w0 hp vs W hh hl hv => (h.out P0 B w0 hp vs W hh hl hv).mono fun _ _ ⟨v, d, hp2, e, hk, r⟩ => ⟨v, d, hp2, e, k d hp2 hk, r⟩⟩
theorem yieldAt_mono {F : Fence} {m : Nat} {P : Program} {l : Nat} {args : Array Value} {W : World} {R R' : Ending → World → Prop} (h : YieldAt F m P l args W R) (k : ∀ e w, R e w → R' e w) : YieldAt F m P l args W R' := by
  obtain ⟨fn, tmps, assign, body, hrun, hR⟩ := h
  exact ⟨fn, tmps, assign, body, hrun, hR.mono k⟩
theorem SeqE.seq {P : Program} {gf : FuncId} {lb : List Value} {hk : List HObj} {α : Type} {D : α → Dat} {xs : List α} (h : SeqE P gf lb hk D xs) : SeqC P gf lb hk D xs := ⟨fun l J hY js hj =>
  (h.out l J (fun _ _ => False) ⟨fun P0 B w0 hp pre js x u W hn hj hh hu => yieldAt_mono (hY.out P0 B w0 hp pre js x u W hn hj hh hu) fun _ _ ⟨he, js', hj', hh'⟩ => ⟨true, he, js', hj', hh'⟩⟩ js hj).monoK fun _ _ ⟨js', h1, h2⟩ => ⟨js', h1.elim id fun ⟨_, _, _, _, h3⟩ => h3.elim, h2⟩⟩
namespace I
section
variable {P : Program} {ops : Array Oper} {hp : List HObj} {fr : List Dat} {Q : Post} {rest : List Oper} {dst : Option Tmp} {ty : TypeId} {ps : String} {af : Array Edge} {d : Dat} {c : Code}
theorem yield_core {l : Nat} {α : Type} {D : α → Dat} {J E : List α → List HObj → Prop} {t : Tmp} {x : Operand} {ats : Array TypeId} {pre : List α} {js : List HObj} {y : α} {N : Nat} {g : Option (Nat × Bool)} (hy : YStepE P l D J E N) (hn : pre.length < N) (hj : J pre js) (ht : OpD fr (.tmp t) (dX (.func (.yield l) #[] #[]))) (hx : OpD fr x (D y))
    {P0 : Nat → Prop} {B : Nat} {w0 w : World} {a : Act} (hh : Hp P0 B w0 (js ++ hp) w) (hf : Fr (Imm P0 B (js ++ hp)) w a fr) {K : Act → World → Prop} {Q : Exit → Act → World → Prop}
    (h : ∀ (b : Bool) js' a' w', (if b = true then J (pre ++ [y]) js' else E (pre ++ [y]) js') → Hp P0 B w0 (js' ++ hp) w' → Fr (Imm P0 B (js' ++ hp)) w' a' (setD fr dst (dB b)) → K a' w') :
    Oper.wpIn Fence.wide 0 P { dst := dst, op := .call { callee := .value (.tmp t), args := #[x], argTypes := ats }, type := ty, pos := ps, after := af, guard := g } a w K Q := by
  have hgb : (hFr a fr).blk = none := rfl
  have hG : Hp P0 B w0 (js ++ hFr a fr :: hp) w := Hp.ghost hgb hh hf.rd
  have hev : a.eval (.tmp t) = .func (.yield l) #[] #[] := ht.ev hf
  have hyy := hy.out P0 B w0 (hFr a fr :: hp) pre js y (a.eval x) w hn hj hG ((D y).weak (hx.ev hf) fun k => (imm_ghost hgb _ k).2)
  obtain ⟨fn, tmps, assign, body, hrun, hR⟩ := hyy
  refine ⟨fun _ _ => trivial, ?_⟩
  have hr : (execOp a.eval { dst := dst, op := .call { callee := .value (.tmp t), args := #[x], argTypes := ats }, type := ty, pos := ps, after := af, guard := g }).run P w = .ok (.round l fn tmps assign body) w := by
    unfold execOp
    simp only [resolve]
    simp [hev, Deferred.ofValue, invoke, hrun]
  rw [show Fence.wide.round = none from rfl, Oper.semAt_none, hr]
  refine ⟨fun h => by simp [Fence.wide] at h, hR.mono fun e W' ⟨b, he, js', hj', hh'⟩ => ?_⟩
  subst he
  obtain ⟨hh2, hok2⟩ := hh'.unghost hgb
  exact h b js' _ _ hj' hh2 (Fr.put (⟨hf.defers, hf.size, hok2⟩ : Fr (Imm P0 B (js' ++ hp)) W' a fr) (d := dB b) rfl)
theorem WL.yieldG {l : Nat} {α : Type} {D : α → Dat} {J E : List α → List HObj → Prop} {t gi s : Nat} {pol : Bool} {x : Operand} {ats : Array TypeId} {pre : List α} {js : List HObj} {y : α} {N : Nat} (hs : (ops[gi]?).bind (·.dst) = some s) (hb : fr[s]? = some (dB pol)) (hy : YStepE P l D J E N) (hn : pre.length < N) (hj : J pre js) (ht : OpD fr (.tmp t) (dX (.func (.yield l) #[] #[]))) (hx : OpD fr x (D y))
    (h : ∀ (b : Bool) js', (if b = true then J (pre ++ [y]) js' else E (pre ++ [y]) js') → WL P ops Q rest (setD fr dst (dB b)) (js' ++ hp)) :
    WL P ops Q ({ dst := dst, op := .call { callee := .value (.tmp t), args := #[x], argTypes := ats }, type := ty, pos := ps, after := af, guard := some (gi, pol) } :: rest) fr (js ++ hp) := by
  refine WL.of fun P0 B w0 w a hh hf => ?_
  unfold wpListIn
  have hwant : Region.wanted { dst := dst, op := Op.call { callee := .value (.tmp t), args := #[x], argTypes := ats }, type := ty, pos := ps, after := af, guard := some (gi, pol) } (yielded ops a.tmps) = true :=
    (want_yes rfl hs hb rfl).out _ w a (hf.on _)
  rw [if_pos hwant]
  exact yield_core hy hn hj ht hx hh hf fun b js' a' w' hj' hh' hf' => (h b js' hj').on hh' hf'
end
end I
section
variable {P : Program} {l : Nat} {Q : Post} {fr : List Dat} {hp : List HObj}
theorem WR.ret (h : Q .ret fr hp) : WR P l Q .ret fr hp := WR.of fun _ _ _ _ _ hh hf => wpIn_ret ⟨fr, hp, h, hh, hf⟩
theorem WR.cond {c : Operand} {x y : Code} {b : Bool} (hc : OpD fr c (dB b)) (ht : b = true → WR P l Q x fr hp) (hf : b = false → WR P l Q y fr hp) : WR P l Q (.cond c x y) fr hp := WR.of fun P0 B w0 w a hh hfr => by
  refine wpIn_cond (t := b) (hc.ev hfr) ?_
  cases b with
  | true => exact (ht rfl).out _ _ _ _ _ hh hfr
  | false => exact (hf rfl).out _ _ _ _ _ hh hfr
theorem WR.use {c : Code} {d : Dat} {v : Value} (t : Nat) (ht : fr[t]? = some (dX v)) (hm : hKnow v d ∈ hp) (h : WR P l Q c (fr.set t d) hp) : WR P l Q c fr hp := WR.of fun P0 B w0 w a hh hf => by
  refine h.out _ _ _ _ _ hh ⟨hf.defers, by rw [hf.size, List.length_set], fun t' d' hd' => ?_⟩
  by_cases htt : t = t'
  · subst htt
    rw [List.getElem?_set] at hd'
    simp only [if_true] at hd'
    split at hd'
    · cases hd'
      have h1 : a.tmps.getD t undef = v := hf.rd t _ ht
      rw [h1]
      exact hh.ok _ hm
    · cases hd'
  · rw [List.getElem?_set_ne htt] at hd'
    exact hf.rd t' d' hd'
end
theorem wp_rangeE {P : Program} {g : Operand} {p : Tmp} {assign body : Code} {Q : Exit → Act → World → Prop} {P0 : Nat → Prop} {B : Nat} {w0 w : World} {a : Act} {fr : List Dat} {gf : FuncId} {lb : List Value} {hk hp hs0 : List HObj} {α : Type} {D : α → Dat} {xs : List α} (H HE : List α → List HObj → Prop) (F0 : List Dat) (F1 : α → List Dat)
    (hh : Hp P0 B w0 (hs0 ++ (hk ++ hp)) w) (hf : Fr (Imm P0 B (hs0 ++ (hk ++ hp))) w a fr) (hg : OpD fr g (dX (.func (.func gf) #[] lb.toArray))) (he : Enters P gf) (hS : SeqE P gf lb hk D xs) (h0 : H [] hs0) (hF : FixF fr F0)
    (hassign : ∀ (l : Nat) (x : α) (q : List HObj), WR P l (fun e f q' => e = .normal ∧ q' = q ∧ f = F1 x) assign (F0.set p (D x)) q)
    (hbody : ∀ (l : Nat) (pre : List α) (x : α) (hs q : List HObj), pre.length < xs.length → H pre hs → WR P l (fun e _ q' => (e = .normal ∧ ∃ hs', H (pre ++ [x]) hs' ∧ q' = hs' ++ q) ∨ (e = .ret ∧ ∃ hs', HE (pre ++ [x]) hs' ∧ q' = hs' ++ q)) body (F1 x) (hs ++ q))
    (hpost : ∀ (k : Nat) (hs : List HObj) (w' : World), H xs hs → Hp P0 B w0 (hObj k (.deferred (some [])) :: (hs ++ (hk ++ hp))) w' → (∀ (t : Nat) (d : Dat), fr[t]? = some d → d.rd (Imm P0 B (hObj k (.deferred (some [])) :: (hs ++ (hk ++ hp)))) w' (a.tmps.getD t undef)) →
      Q .normal { a with defers := { target := .collected k, args := #[] } :: a.defers } w')
    (hstop : ∀ (k : Nat) (pre : List α) (x : α) (t : List α) (hs : List HObj) (w' : World), xs = pre ++ x :: t → HE (pre ++ [x]) hs → Hp P0 B w0 (hObj k (.deferred (some [])) :: (hs ++ (hk ++ hp))) w' → (∀ (t : Nat) (d : Dat), fr[t]? = some d → d.rd (Imm P0 B (hObj k (.deferred (some [])) :: (hs ++ (hk ++ hp)))) w' (a.tmps.getD t undef)) →
      Q .ret { a with defers := { target := .collected k, args := #[] } :: a.defers } w') : (Code.rangeFunc g #[p] assign body).wp P Q a w := by
  refine (wpIn_wide (n := 0)).1 (wpIn_rangeFunc ?_)
  intro fn hfn
  rw [show Fence.wide.round = none from rfl]
  obtain ⟨rec, hrec⟩ : ∃ rec : LoopState → Option Code → Loop, rec = fun st pe => { state := st, pending := pe, fn, tmps := a.tmps, params := #[p], assign, body, defers := w.heap.size } := ⟨_, rfl⟩
  obtain ⟨W1, hW1⟩ : ∃ W1, (w.alloc (.deferred (some []))).alloc (.loop (rec .ready none)) = W1 := ⟨_, rfl⟩
  have hgb : (hFr a fr).blk = none := rfl
  have hG : Hp P0 B w0 (hs0 ++ (hk ++ (hFr a fr :: hp))) w := by
    have := Hp.ghost (l := hs0 ++ hk) (hp := hp) hgb (by rw [List.append_assoc]; exact hh) (by rw [List.append_assoc]; exact hf.rd)
    rw [List.append_assoc] at this
    exact this
  have hA : Hp P0 B w0 (hObj w.heap.size (.deferred (some [])) :: (hs0 ++ (hk ++ (hFr a fr :: hp)))) (w.alloc (.deferred (some []))) :=
    hG.push (Ext.of_alloc _ _) (fun k hk => by cases hk; simp) (World.alloc_heap_new w _)
  have hB : Hp P0 B w0 (hObj (w.heap.size + 1) (.loop (rec .ready none)) :: hObj w.heap.size (.deferred (some [])) :: (hs0 ++ (hk ++ (hFr a fr :: hp)))) W1 := by
    rw [← hW1]
    refine hA.push (Ext.of_alloc _ _) (fun k hk => by cases hk; simp) ?_
    have := World.alloc_heap_new (w.alloc (.deferred (some []))) (.loop (rec .ready none))
    rwa [World.size_alloc] at this
  have hJ0 : (∃ hs, H [] hs ∧ (hObj (w.heap.size + 1) (.loop (rec .ready none)) :: hObj w.heap.size (.deferred (some [])) :: hs0) = hObj (w.heap.size + 1) (.loop (rec .ready none)) :: hObj w.heap.size (.deferred (some [])) :: hs) := ⟨hs0, h0, rfl⟩
  have hY : YStepE P (w.heap.size + 1) D (fun pre js => ∃ hs, H pre hs ∧ js = hObj (w.heap.size + 1) (.loop (rec .ready none)) :: hObj w.heap.size (.deferred (some [])) :: hs)
      (fun pre js => ∃ hs, HE pre hs ∧ js = hObj (w.heap.size + 1) (.loop (rec .done (some .ret))) :: hObj w.heap.size (.deferred (some [])) :: hs) xs.length := ⟨fun P0' B' w0' hpX pre js x u W hlt ⟨hs, hH, hjs⟩ hhW hu => by
    subst hjs
    have hl : W.heap[w.heap.size + 1]? = some (.loop (rec .ready none)) := hhW.ok (hObj (w.heap.size + 1) (.loop (rec .ready none))) (by simp)
    have hy := run_yield (P := P) (args := #[u]) hl (by rw [hrec]; simp)
    refine ⟨_, _, _, _, hy, roundIn_of_wpIn trivial ?_⟩
    have ha : (rec .ready none).assign = assign := by rw [hrec]
    have hbd : (rec .ready none).body = body := by rw [hrec]
    have ht : (rec .ready none).params = #[p] := by rw [hrec]
    have htm : (rec .ready none).tmps = a.tmps := by rw [hrec]
    rw [ha, hbd, ht, htm]
    have hfrR : Fr (Imm P0' B' (hObj (w.heap.size + 1) (.loop (rec .ready none)) :: hObj w.heap.size (.deferred (some [])) :: hs ++ hpX)) W { tmps := a.tmps.setIfInBounds p u, defers := [] } (F0.set p (D x)) :=
      Fr.put (x := some p) (hF.fr hf) hu
    refine wpIn_mono (Q := lift (fun e f q' => e = .normal ∧ q' = hObj (w.heap.size + 1) (.loop (rec .ready none)) :: hObj w.heap.size (.deferred (some [])) :: hs ++ hpX ∧ f = F1 x) P0' B' w0') ?_ ?_
    · exact (hassign (w.heap.size + 1) x _).out P0' B' w0' W _ hhW (by simpa using hfrR)
    rintro e a1 w1 ⟨f1, q1, ⟨rfl, rfl, rfl⟩, hh1, hf1⟩
    have hl1 : w1.heap[w.heap.size + 1]? = some (.loop (rec .ready none)) := hh1.ok (hObj (w.heap.size + 1) (.loop (rec .ready none))) (by simp)
    refine ⟨_, run_beginRound hl1 (by rw [hrec]), ?_⟩
    have hbz : ({ rec .ready none with state := .busy } : Loop) = rec .busy none := by rw [hrec]
    rw [hbz]
    have hh2 : Hp P0' B' w0' (hObj (w.heap.size + 1) (.loop (rec .busy none)) :: (hObj w.heap.size (.deferred (some [])) :: (hs ++ hpX))) (w1.putObj (w.heap.size + 1) (.loop (rec .busy none))) := Hp.putObj (o := .loop (rec .ready none)) hh1
    have hf2 : Fr (Imm P0' B' (hObj (w.heap.size + 1) (.loop (rec .busy none)) :: (hObj w.heap.size (.deferred (some [])) :: (hs ++ hpX)))) (w1.putObj (w.heap.size + 1) (.loop (rec .busy none))) a1 (F1 x) := hf1.mono fun d v hd => Hp.putObj_rd (o := .loop (rec .ready none)) hd
    obtain ⟨hh3, hI3⟩ := hh2.perm perm_mid2
    refine wpIn_mono ((hbody (w.heap.size + 1) pre x hs _ hlt hH).out P0' B' w0' _ _ hh3 (hf2.mono fun d v hd => d.weak hd fun k hk => (hI3 k).1 hk)) ?_
    rintro e a3 w3 ⟨f3, q3, hcase, hh4, hf4⟩
    rcases hcase with ⟨rfl, hs', hH', rfl⟩ | ⟨rfl, hs', hH', rfl⟩
    · obtain ⟨hh5, _⟩ := hh4.perm perm_mid2.symm
      have hl3 : w3.heap[w.heap.size + 1]? = some (.loop (rec .busy none)) := hh5.ok (hObj (w.heap.size + 1) (.loop (rec .busy none))) (by simp)
      have hrz : ({ rec .busy none with state := if (none : Option Code).isNone then .ready else .done, pending := none } : Loop) = rec .ready none := by rw [hrec]; rfl
      have hend := run_endRound (P := P) none hl3
      rw [hrz] at hend
      exact ⟨_, _, hend, true, rfl, _, ⟨hs', hH', rfl⟩, Hp.putObj (o := .loop (rec .busy none)) hh5⟩
    · obtain ⟨hh5, _⟩ := hh4.perm perm_mid2.symm
      have hl3 : w3.heap[w.heap.size + 1]? = some (.loop (rec .busy none)) := hh5.ok (hObj (w.heap.size + 1) (.loop (rec .busy none))) (by simp)
      have hrz : ({ rec .busy none with state := if (some Code.ret).isNone then .ready else .done, pending := some .ret } : Loop) = rec .done (some .ret) := by rw [hrec]; rfl
      have hend := run_endRound (P := P) (some .ret) hl3
      rw [hrz] at hend
      exact ⟨_, _, hend, false, rfl, _, ⟨hs', hH', rfl⟩, Hp.putObj (o := .loop (rec .busy none)) hh5⟩⟩
  have hC := (hS.out (w.heap.size + 1) _ _ hY _ hJ0).out P0 B w0 (hFr a fr :: hp) (.func (.yield (w.heap.size + 1)) #[] #[] :: lb) W1 (by simpa using hB) (by simp) (fun i d hd => by
    cases i with
    | zero => simp at hd; subst hd; rfl
    | succ i =>
      simp only [List.getElem?_cons_succ, List.getElem?_map] at hd
      cases hq : lb[i]? with
      | none => rw [hq] at hd; cases hd
      | some u => rw [hq] at hd; cases hd; simp [List.getD, hq]; rfl)
  refine ⟨w.heap.size + 1, [{ target := .collected w.heap.size, args := #[] }], W1, { target := .fn (.func gf) lb.toArray, args := #[.func (.yield (w.heap.size + 1)) #[] #[]] }, W1, gf,
    (.func (.yield (w.heap.size + 1)) #[] #[] :: lb).toArray, W1, ?_, ?_, fun _ _ => trivial, ?_, fun h => by simp [Fence.wide] at h, ?_⟩
  · rw [← hW1, hrec]; exact run_enterLoop_outer _ _ _ _ _
  · have hev : a.eval g = .func (.func gf) #[] lb.toArray := hg.ev hf
    simp only [resolve, hev]
    simp [go_sem]
  · have := he (.func (.yield (w.heap.size + 1)) #[] #[] :: lb).toArray W1
    simp [invoke, go_sem, this]
  · refine callsIn_wide.2 (hC.mono ?_)
    rintro e w2 ⟨v, d, hp2, rfl, ⟨js', hor, rfl⟩, hh2, _⟩
    rcases hor with ⟨hs, hH, rfl⟩ | ⟨pre, x, t, hxs, hs, hH, rfl⟩
    · have hl2 : w2.heap[w.heap.size + 1]? = some (.loop (rec .ready none)) := hh2.ok (hObj (w.heap.size + 1) (.loop (rec .ready none))) (by simp)
      have hend := run_endLoop (P := P) hl2 (by rw [hrec]; simp)
      have hpn : (rec .ready none).pending = none := by rw [hrec]
      obtain ⟨rx, hrx⟩ : ∃ rx : Loop, rx = { rec .ready none with state := .exhausted } := ⟨_, rfl⟩
      rw [← hrx, hpn] at hend
      refine ⟨none, _, hend, ?_⟩
      have hh3 : Hp P0 B w0 (hObj (w.heap.size + 1) (.loop rx) :: (hObj w.heap.size (.deferred (some [])) :: (hs ++ (hk ++ (hFr a fr :: hp))))) (w2.putObj (w.heap.size + 1) (.loop rx)) :=
        Hp.putObj (o := .loop (rec .ready none)) (by simpa using hh2)
      have hh4 := hh3.drop
      have hh5 : Hp P0 B w0 ((hObj w.heap.size (.deferred (some [])) :: (hs ++ hk)) ++ hFr a fr :: hp) (w2.putObj (w.heap.size + 1) (.loop rx)) := by simpa using hh4
      obtain ⟨hh6, hok⟩ := hh5.unghost hgb
      have e1 : (hObj w.heap.size (.deferred (some [])) :: (hs ++ hk)) ++ hp = hObj w.heap.size (.deferred (some [])) :: (hs ++ (hk ++ hp)) := by simp
      rw [e1] at hh6 hok
      have := hpost w.heap.size hs _ hH hh6 hok
      simpa using this
    · have hl2 : w2.heap[w.heap.size + 1]? = some (.loop (rec .done (some .ret))) := hh2.ok (hObj (w.heap.size + 1) (.loop (rec .done (some .ret)))) (by simp)
      have hend := run_endLoop (P := P) hl2 (by rw [hrec]; simp)
      have hpn : (rec .done (some .ret)).pending = some .ret := by rw [hrec]
      obtain ⟨rx, hrx⟩ : ∃ rx : Loop, rx = { rec .done (some .ret) with state := .exhausted } := ⟨_, rfl⟩
      rw [← hrx, hpn] at hend
      refine ⟨some .ret, _, hend, ?_⟩
      have hh3 : Hp P0 B w0 (hObj (w.heap.size + 1) (.loop rx) :: (hObj w.heap.size (.deferred (some [])) :: (hs ++ (hk ++ (hFr a fr :: hp))))) (w2.putObj (w.heap.size + 1) (.loop rx)) :=
        Hp.putObj (o := .loop (rec .done (some .ret))) (by simpa using hh2)
      have hh4 := hh3.drop
      have hh5 : Hp P0 B w0 ((hObj w.heap.size (.deferred (some [])) :: (hs ++ hk)) ++ hFr a fr :: hp) (w2.putObj (w.heap.size + 1) (.loop rx)) := by simpa using hh4
      obtain ⟨hh6, hok⟩ := hh5.unghost hgb
      have e1 : (hObj w.heap.size (.deferred (some [])) :: (hs ++ hk)) ++ hp = hObj w.heap.size (.deferred (some [])) :: (hs ++ (hk ++ hp)) := by simp
      rw [e1] at hh6 hok
      have := hstop w.heap.size pre x t hs _ hxs hH hh6 hok
      refine wpIn_ret ?_
      simpa using this
end Go.Proofs.YtjbepoofigokjaaGreat
