/-
  Part 16 of the texts that the claims of this seat lean on: walks of the program's functions by contracts over symbolic frames, and plain laws of what they compute. No condition.
-/
import Derived.Test.YtjbepoofigokjaaGreatVt7
import Derived.Test.YtjbepoofigokjaaGreatVt11
import Derived.Test.YtjbepoofigokjaaGreatVt15
set_option linter.unusedVariables false
set_option linter.unusedSimpArgs false
set_option linter.unusedSectionVars false
namespace Go.Proofs.YtjbepoofigokjaaGreat
theorem cmpL_lt_trans {a b c : List Vx} (h : cmpL a b < 0) (k : cmpL b c < 0) : cmpL a c < 0 := by
  obtain ⟨h1, h2⟩ := cmpL_trans a b c (by omega) (by omega)
  rcases Int.lt_or_eq_of_le h1 with h3 | h3
  · exact h3
  · have := h2 h3; omega
theorem cmpL_irr (a : List Vx) : cmpL a a = 0 := cmpL_eq.2 rfl
theorem cmpL_cases (a b : List Vx) : cmpL a b < 0 ∨ cmpL b a < 0 ∨ a = b := by
  have h := cmpL_neg a b
  by_cases h1 : cmpL a b < 0
  · exact .inl h1
  by_cases h2 : cmpL b a < 0
  · exact .inr (.inl h2)
  · exact .inr (.inr (cmpL_eq.1 (by omega)))
def SortL (xs : Cx) : Prop := xs.Pairwise fun a b => ¬ cmpL b a < 0
def AscL (xs : Cx) : Prop := xs.Pairwise fun a b => cmpL a b < 0
theorem ascL_ext : ∀ {a b : Cx}, AscL a → AscL b → (∀ x, x ∈ a ↔ x ∈ b) → a = b
  | [], [], _, _, _ => rfl
  | [], y :: b, _, _, h => absurd ((h y).2 (by simp)) (by simp)
  | x :: a, [], _, _, h => absurd ((h x).1 (by simp)) (by simp)
  | x :: a, y :: b, ha, hb, h => by
    unfold AscL at ha hb
    rw [List.pairwise_cons] at ha hb
    have hxy : x = y := by
      have h1 := (h x).1 (by simp)
      have h2 := (h y).2 (by simp)
      rw [List.mem_cons] at h1 h2
      rcases h1 with h1 | h1
      · exact h1
      rcases h2 with h2 | h2
      · exact h2.symm
      have h3 := hb.1 x h1
      have h4 := ha.1 y h2
      have := cmpL_neg x y
      omega
    subst hxy
    rw [ascL_ext ha.2 hb.2 fun z => ?_]
    have h1 := h z
    rw [List.mem_cons, List.mem_cons] at h1
    constructor
    · intro hz
      rcases h1.1 (.inr hz) with rfl | h2
      · have := ha.1 z hz; have := cmpL_irr z; omega
      · exact h2
    · intro hz
      rcases h1.2 (.inr hz) with rfl | h2
      · have := hb.1 z hz; have := cmpL_irr z; omega
      · exact h2
theorem AscL.nodup {a : Cx} (h : AscL a) : a.Nodup := List.Pairwise.imp (fun {x y} hxy hc => by
  subst hc; have := cmpL_irr x; omega) h
def GoodL (xs : Cx) (m : Nat) (zs : Cx) : Prop := AscL zs ∧ (∀ v, v ∈ zs ↔ v ∈ xs.take m) ∧ zs.getLast? = xs[m - 1]?
theorem ascL_last {zs : Cx} {l : List Vx} (h : AscL zs) (hl : zs.getLast? = some l) : ∀ a ∈ zs, a = l ∨ cmpL a l < 0 := by
  obtain ⟨ys, rfl⟩ := List.getLast?_eq_some_iff.1 hl
  intro a ha
  rcases List.mem_append.1 ha with ha | ha
  · exact .inr ((List.pairwise_append.1 h).2.2 a ha l (by simp))
  · exact .inl (by simpa using ha)
theorem goodL_start {xs : Cx} (h : 1 ≤ xs.length) : GoodL xs 1 (xs.take 1) := by
  match xs, h with
  | x :: l, _ => exact ⟨by simp [AscL], fun v => Iff.rfl, by simp⟩
theorem goodL_push {xs zs : Cx} {m : Nat} (hs : SortL xs) (h : GoodL xs m zs) (h1 : 1 ≤ m) (h2 : m < xs.length) (hne : xs[m] ≠ xs[m - 1]'(by omega)) : GoodL xs (m + 1) (zs ++ [xs[m]]) := by
  obtain ⟨ha, hm, hl⟩ := h
  rw [List.getElem?_eq_getElem (by omega : m - 1 < xs.length)] at hl
  have hlt : cmpL (xs[m - 1]'(by omega)) xs[m] < 0 := by
    have h3 := (List.pairwise_iff_getElem.1 hs) (m - 1) m (by omega) h2 (by omega)
    rcases cmpL_cases (xs[m - 1]'(by omega)) xs[m] with k | k | k
    · exact k
    · exact absurd k h3
    · exact absurd k.symm hne
  refine ⟨List.pairwise_append.2 ⟨ha, by simp, fun a haz b hb => ?_⟩, fun v => ?_, by simp [h2]⟩
  · have hb' : b = xs[m] := by simpa using hb
    subst hb'
    rcases ascL_last ha hl a haz with rfl | h4
    · exact hlt
    · exact cmpL_lt_trans h4 hlt
  · rw [List.mem_append, hm, mem_take_snoc h2]; simp
theorem goodL_skip {xs zs : Cx} {m : Nat} (h : GoodL xs m zs) (h1 : 1 ≤ m) (h2 : m < xs.length) (he : xs[m] = xs[m - 1]'(by omega)) : GoodL xs (m + 1) zs := by
  obtain ⟨ha, hm, hl⟩ := h
  refine ⟨ha, fun v => ?_, ?_⟩
  · rw [hm, mem_take_snoc h2]
    refine ⟨.inl, fun h => h.elim id fun h => ?_⟩
    rw [h, he, List.mem_take_iff_getElem]
    exact ⟨m - 1, by omega, rfl⟩
  · rw [hl, Nat.add_sub_cancel, List.getElem?_eq_getElem h2, List.getElem?_eq_getElem (by omega), he]
theorem goodL_end {xs zs : Cx} {m : Nat} (h : GoodL xs m zs) (h2 : xs.length ≤ m) : AscL zs ∧ ∀ v, v ∈ zs ↔ v ∈ xs := ⟨h.1, fun v => by rw [h.2.1, List.take_of_length_le h2]⟩
theorem insC_mem : ∀ {l : Cx} {s x : List Vx}, x ∈ insC l s ↔ x = s ∨ x ∈ l
  | [], s, x => by simp [insC]
  | y :: l, s, x => by
    unfold insC
    split
    · simp
    · rw [List.mem_cons, insC_mem, List.mem_cons]
      constructor
      · rintro (h | h | h) <;> simp [h]
      · rintro (h | h | h) <;> simp [h]
theorem putC_mem {l : Cx} {s x : List Vx} : x ∈ putC l s ↔ x = s ∨ x ∈ l := by
  unfold putC
  split
  · rename_i h
    exact ⟨.inr, fun h' => h'.elim (fun e => e ▸ h) id⟩
  · exact insC_mem
theorem insC_asc : ∀ {l : Cx} {s : List Vx}, AscL l → s ∉ l → AscL (insC l s)
  | [], s, _, _ => by simp [insC, AscL]
  | y :: l, s, h, hs => by
    have h' := h
    unfold AscL at h'
    rw [List.pairwise_cons] at h'
    unfold insC
    split
    · rename_i hlt
      unfold AscL
      rw [List.pairwise_cons]
      refine ⟨fun a ha => ?_, h⟩
      rcases List.mem_cons.1 ha with rfl | ha
      · exact hlt
      · exact cmpL_lt_trans hlt (h'.1 a ha)
    · rename_i hlt
      unfold AscL
      rw [List.pairwise_cons]
      refine ⟨fun a ha => ?_, insC_asc h'.2 fun hc => hs (by simp [hc])⟩
      rcases insC_mem.1 ha with rfl | ha
      · rcases cmpL_cases a y with k | k | k
        · exact absurd k hlt
        · exact k
        · exact absurd (by rw [k]; simp) hs
      · exact h'.1 a ha
theorem putC_asc {l : Cx} {s : List Vx} (h : AscL l) : AscL (putC l s) := by
  unfold putC
  split
  · exact h
  · rename_i hs; exact insC_asc h hs
theorem foldPut_asc : ∀ {l out : Cx}, AscL out → AscL (l.foldl putC out)
  | [], _, h => h
  | s :: l, out, h => foldPut_asc (l := l) (putC_asc h)
theorem foldPut_mem : ∀ {l out : Cx} {x : List Vx}, x ∈ l.foldl putC out ↔ x ∈ l ∨ x ∈ out
  | [], out, x => by simp
  | s :: l, out, x => by
    rw [List.foldl_cons, foldPut_mem (l := l), putC_mem, List.mem_cons]
    constructor
    · rintro (h | h | h) <;> simp [h]
    · rintro ((h | h) | h) <;> simp [h]
theorem maxC_asc (l : Cx) : AscL (maxC l) := foldPut_asc (by simp [AscL])
theorem maxC_mem {l : Cx} {s : List Vx} : s ∈ maxC l ↔ s ∈ l ∧ topC l s = true := by
  unfold maxC
  rw [foldPut_mem, List.mem_filter]
  simp
theorem coveredC_iff {l : Cx} {s : List Vx} : coveredC l s = true ↔ ∃ x ∈ l, s.length < x.length ∧ insideV s x = true := by
  unfold coveredC
  simp
theorem coveredC_same {l l' : Cx} (h : ∀ x, x ∈ l ↔ x ∈ l') (s : List Vx) : coveredC l s = coveredC l' s := by
  rw [Bool.eq_iff_iff, coveredC_iff, coveredC_iff]
  constructor
  · rintro ⟨x, hx, hr⟩; exact ⟨x, (h x).1 hx, hr⟩
  · rintro ⟨x, hx, hr⟩; exact ⟨x, (h x).2 hx, hr⟩
theorem maxC_eq {l zs : Cx} (h0 : ∀ s ∈ l, 0 < s.length) (ha : AscL zs) (hm : ∀ u, u ∈ zs ↔ u ∈ l) : (zs.filter fun s => !coveredC zs s) = maxC l := by
  refine ascL_ext (List.Pairwise.filter _ ha) (maxC_asc l) fun s => ?_
  rw [List.mem_filter, maxC_mem, hm]
  unfold topC
  rw [coveredC_same hm]
  constructor
  · rintro ⟨h1, h2⟩; exact ⟨h1, by rw [decide_eq_true (h0 s h1)]; exact h2⟩
  · rintro ⟨h1, h2⟩; rw [decide_eq_true (h0 s h1)] at h2; exact ⟨h1, h2⟩
end Go.Proofs.YtjbepoofigokjaaGreat
namespace Go.Proofs.YtjbepoofigokjaaGreat
open Go.RowKit
set_option linter.unusedSimpArgs false

set_option maxHeartbeats 2000000
set_option maxRecDepth 100000
def faceG : List Vx → List Vx → Bool
  | [], _ => true
  | v :: a, b => if (b.dropWhile fun x => decide (x ≠ v)) = [] then false else faceG a (b.dropWhile fun x => decide (x ≠ v))
theorem faceG_skip {v x : Vx} {a c : List Vx} (h : x ≠ v) : faceG (v :: a) (x :: c) = faceG (v :: a) c := by
  unfold faceG
  rw [List.dropWhile_cons_of_pos (by simpa using h)]
theorem faceG_hit {v : Vx} {a c : List Vx} : faceG (v :: a) (v :: c) = faceG a (v :: c) := by
  conv => lhs; unfold faceG
  rw [List.dropWhile_cons_of_neg (by simp)]
  simp
theorem faceG_end {v : Vx} {a : List Vx} : faceG (v :: a) [] = false := by unfold faceG; simp
theorem face27_p (a b : List Vx) : Fn Tryz.prog 108 [dS Verts a, dS Verts b] (dB (faceG a b)) := by
  (refine Fn.intro1 Tryz.func108 rfl rfl ?_; simp only [Tryz.ntmps108, List.length_cons, List.length_nil, Nat.reduceAdd, Nat.reduceSub, List.replicate_succ, List.replicate_zero, List.cons_append, List.nil_append])
  (repeat' (first | ((first | apply WL.opN | apply WD.opN); exact yF; dsimp only [setD, z0, z1]) | refine WL.nil ?_ | refine WC.seqK fun Kx hK => ?_ | (refine hK _ _ ?_; clear hK) | refine WC.region ?_ | ((first | apply WL.opG | apply WD.op); (focus (first | exact wN | (apply SYG.yes; (exact wY); ((first | exact yLen | fail); all_goals infer_instance)))); dsimp only [setD, z0, z1]) | refine WC.block ?_))
  (first | refine WC.know (t := 0) rfl le_K fun hl0 => ?_ | refine WC.know (t := 0) rfl le_A fun hl0 => ?_ | refine WC.know (t := 0) rfl le_C fun hl0 => ?_); simp only [maxLen] at hl0
  (refine WC.loopU (X := Nat × List Vx) (fun x => [(9, dI (x.1 : Int)), (1, dS Verts x.2), (4, dA), (6, dA), (10, dA), (11, dA), (12, dA), (13, dA), (14, dA), (15, dA), (16, dA), (17, dA), (18, dA), (19, dA), (20, dA), (21, dA), (22, dA), (23, dA), (24, dA), (25, dA), (26, dA), (27, dA), (28, dA)]) (fun x => []) (fun x => a.length - x.1) (fun x => x.1 ≤ a.length ∧ faceG a b = faceG (a.drop x.1) x.2) (0, b) ?start ?frame0 ?objs0 ?round)
  case start => exact ⟨Nat.zero_le _, rfl⟩
  case frame0 => ((try dsimp only [upds, z0, z1]); repeat (first | exact LeF.nil | refine LeF.co (k := ?_)))
  case objs0 => rfl
  case round =>
    rintro ⟨k, c⟩ ⟨h1, h2⟩
    simp only at h1 h2
    dsimp only [upds, z0, z1]
    ((repeat' (first | ((first | apply WL.opN | apply WD.opN); exact yF; dsimp only [setD, z0, z1]) | refine WL.nil ?_ | refine WC.seqK fun Kx hK => ?_ | (refine hK _ _ ?_; clear hK) | (refine Kont.skip ?_; clear hK) | refine WC.region ?_ | (apply WL.alloc; (first | exact tzV | exact tzC); (first | exact shape_X rfl | exact shape_XV | exact shape_C0 rfl); (intro _; dsimp only [setD, z0, z1])) | (apply WL.storeF; (exact tD); rfl; (exact oD); (exact hD); dsimp only [setD, z0, z1]) | ((first | apply WL.opG | apply WD.op); (focus (first | exact wN | (apply SYG.yes; (exact wY); ((first | exact yLss | exact yIndexaddr | fail); all_goals infer_instance)))); dsimp only [setD, z0, z1]) | (apply WC.condD; (exact oD); all_goals (intro h; try exact xD)) | refine WC.skip ?_ | refine WC.ret ?_ | refine WC.exit ?_ | refine WC.block ?_)); all_goals (first | refine WC.id ?_ | ((repeat clear hK); (repeat clear Kx))))
    · (refine WC.loopU (X := List Vx) (fun c' => [(1, dS Verts c'), (13, dA), (14, dA), (15, dA), (16, dA), (17, dA), (18, dA), (19, dA), (20, dA), (21, dA), (22, dA), (23, dA), (24, dA)]) (fun c' => []) (fun c' => c'.length) (fun c' => c'.length ≤ c.length ∧ faceG a b = faceG (a.drop k) c') c ?start ?frame0 ?objs0 ?round)
      case start => exact ⟨Nat.le_refl _, h2⟩
      case frame0 => ((try dsimp only [upds, z0, z1]); repeat (first | exact LeF.nil | refine LeF.co (k := ?_)))
      case objs0 => rfl
      case round =>
        rintro c' ⟨h3, h4⟩
        dsimp only [upds, z0, z1]
        ((repeat' (first | ((first | apply WL.opN | apply WD.opN); exact yF; dsimp only [setD, z0, z1]) | refine WL.nil ?_ | refine WD.nil ?_ | refine WC.seqK fun Kx hK => ?_ | (refine hK _ _ ?_; clear hK) | (refine Kont.skip ?_; clear hK) | refine WC.region ?_ | (apply WC.draw; kernel_rfl; kernel_rfl) | ((first | apply WL.opG | apply WD.op); (focus (first | exact wN | (apply SYG.yes; (exact wY); ((first | (apply SY.ixKJ elV (OpD.t rfl) OpD.i 0 rfl; omega) | (apply SY.fromK elV (OpD.t rfl) OpD.i 1 rfl; omega) | exact yMove | exact yGtr | exact yEql | exact yNeq | exact yAdd | exact yLoad | exact yLen | exact yPick | fail); all_goals infer_instance)))); dsimp only [setD, z0, z1]) | ((first | refine WL.caseP rfl rfl rfl (fun h => ?_) (fun h => ?_) | refine WL.caseN rfl rfl rfl (fun h => ?_) (fun h => ?_) | refine WL.caseB rfl rfl rfl (fun h => ?_) (fun h => ?_) | refine WD.caseP rfl rfl rfl (fun h => ?_) (fun h => ?_) | refine WD.caseN rfl rfl rfl (fun h => ?_) (fun h => ?_) | refine WD.caseB rfl rfl rfl (fun h => ?_) (fun h => ?_)) <;> (first | (exfalso; first | omega | contradiction) | (dsimp only [z0, z1]))) | (apply WC.condF; (exact oD); (with_reducible rfl)) | (apply WC.condD; (exact oD); all_goals (intro h; try exact xD)) | (apply WC.condN; (exact oD); all_goals (intro h; try exact xD)) | refine WC.skip ?_ | refine WC.ret ?_ | refine WC.exit ?_ | refine WC.block ?_ | refine ThenD.n ?_ | refine ThenD.r ?_ | refine InBlockD.n ?_ | refine InBlockD.r ?_)); all_goals (first | ((repeat clear hK); (repeat clear Kx))))
        all_goals rw [List.drop_eq_getElem_cons (show k < a.length by omega)] at h4
        · have hc : c' = c'[0] :: c'.drop 1 := by
            have := List.drop_eq_getElem_cons (show 0 < c'.length by omega)
            rwa [List.drop_zero] at this
          have hd : (c'.drop 1).length = c'.length - 1 := List.length_drop
          (refine ⟨c'.drop 1, ?_, by first | omega | (simp only; omega), rfl, ?_⟩; rotate_left; ((try dsimp only [upds, z0, z1]); repeat (first | exact LeF.nil | refine LeF.co (k := ?_))); (try dsimp only))
          refine ⟨by omega, ?_⟩
          rw [List.drop_eq_getElem_cons (show k < a.length by omega), h4]
          conv => lhs; rw [hc]
          exact faceG_skip h
        · have hc : c' = a[k] :: c'.drop 1 := by
            have := List.drop_eq_getElem_cons (show 0 < c'.length by omega)
            rw [List.drop_zero] at this
            rw [this]; congr 1
          (refine ⟨(k + 1, c'), ?_, by first | omega | (simp only; omega), rfl, ?_⟩; rotate_left; ((try dsimp only [upds, z0, z1]); repeat (first | exact LeF.nil | refine LeF.co (k := ?_))); (try dsimp only))
          refine ⟨by omega, ?_⟩
          show _ = faceG (a.drop (k + 1)) c'
          rw [h4]
          conv => lhs; rw [hc, faceG_hit]
          rw [← hc]
        · have hc : c' = [] := List.eq_nil_of_length_eq_zero (by omega)
          (refine ⟨trivial, _, rfl, ?_⟩; refine FinD.b ?_)
          rw [h4, hc, faceG_end]
    · rw [List.drop_of_length_le (by omega)] at h2
      (refine ⟨trivial, _, rfl, ?_⟩; refine FinD.b ?_)
      rw [h2]; rfl
end Go.Proofs.YtjbepoofigokjaaGreat
namespace Go.Proofs.YtjbepoofigokjaaGreat
open Go.RowKit
set_option linter.unusedSimpArgs false

set_option maxHeartbeats 2000000
set_option maxRecDepth 100000
abbrev MemS (l : Cx) := {v : List Vx // v ∈ l}
abbrev dPredI (at' : List Int) (p : Int → Bool) : Dat := dFun Tryz.prog (fun i : {i : Int // i ∈ at'} => [dI i.1]) (fun i => dB (p i.1))
theorem idxI_p (l : List Int) (p : Int → Bool) : Fn Tryz.prog 134 [dS Ints l, dPredI l p] (dI (idxG p 0 l)) := by
  (refine Fn.intro1 Tryz.func134 rfl rfl ?_; simp only [Tryz.ntmps134, List.length_cons, List.length_nil, Nat.reduceAdd, Nat.reduceSub, List.replicate_succ, List.replicate_zero, List.cons_append, List.nil_append])
  (repeat' (first | (apply WL.opN; exact yF; dsimp only [setD, z0, z1]) | refine WL.nil ?_ | refine WC.seqK fun Kx hK => ?_ | (refine hK _ _ ?_; clear hK) | refine WC.region ?_ | (apply WL.opN; (focus ((first | exact yLen | fail); all_goals infer_instance)); dsimp only [setD, z0, z1]) | refine WC.block ?_))
  (first | refine WC.know (t := 0) rfl le_K fun hl0 => ?_ | refine WC.know (t := 0) rfl le_A fun hl0 => ?_ | refine WC.know (t := 0) rfl le_C fun hl0 => ?_); simp only [maxLen] at hl0
  (refine WC.loopU (X := Nat) (fun k => [(8, dI (k : Int)), (4, dA), (5, dA), (9, dA), (10, dA), (11, dA), (12, dA), (13, dA), (14, dA), (15, dA), (16, dA), (17, dA), (18, dA)]) (fun k => []) (fun k => l.length - k) (fun k => k ≤ l.length ∧ idxG p 0 l = idxG p k (l.drop k)) 0 ?start ?frame0 ?objs0 ?round)
  case start => exact ⟨Nat.zero_le _, rfl⟩
  case frame0 => ((try dsimp only [upds, z0, z1]); repeat (first | exact LeF.nil | refine LeF.co (k := ?_)))
  case objs0 => rfl
  case round =>
    rintro k ⟨h1, h2⟩
    dsimp only [upds, z0, z1]
    ((repeat' (first | (apply WL.opN; exact yF; dsimp only [setD, z0, z1]) | refine WL.nil ?_ | refine WC.seqK fun Kx hK => ?_ | (refine hK _ _ ?_; clear hK) | (refine Kont.skip ?_; clear hK) | refine WC.region ?_ | (apply WL.opN; (focus ((first | (apply SY.dynF (x := (⟨l[k], List.getElem_mem _⟩ : {i : Int // i ∈ l})); (exact OpD.t rfl); (exact aD)) | exact yLss | exact yAdd | exact yIndexaddr | fail); all_goals infer_instance)); dsimp only [setD, z0, z1]) | (apply WC.condD; (exact oD); all_goals (intro h; try exact xD)) | (apply WC.cond; (exact oD); all_goals (intro h; try exact xD)) | refine WC.skip ?_ | refine WC.ret ?_ | refine WC.exit ?_ | refine WC.block ?_ | refine ThenD.n ?_ | refine ThenD.r ?_ | refine InBlockD.r ?_)); all_goals (first | ((repeat clear hK); (repeat clear Kx))))
    · (refine ⟨trivial, _, rfl, ?_⟩; refine FinD.i ?_)
      rw [h2, idxG_drop (by omega), if_pos h]
    · (refine ⟨k + 1, ?_, by first | omega | (simp only; omega), rfl, ?_⟩; rotate_left; ((try dsimp only [upds, z0, z1]); repeat (first | exact LeF.nil | refine LeF.co (k := ?_))); (try dsimp only))
      exact ⟨by omega, by rw [h2, idxG_drop (by omega), if_neg (by simp [h])]⟩
    · (refine ⟨trivial, _, rfl, ?_⟩; refine FinD.i ?_)
      rw [h2, List.drop_of_length_le (by omega)]; rfl
theorem cntI_p (l : List Int) (p : Int → Bool) : Fn Tryz.prog 106 [dS Ints l, dPredI l p] (dB (l.any p)) := by
  (refine Fn.intro1 Tryz.func106 rfl rfl ?_; simp only [Tryz.ntmps106, List.length_cons, List.length_nil, Nat.reduceAdd, Nat.reduceSub, List.replicate_succ, List.replicate_zero, List.cons_append, List.nil_append])
  ((repeat' (first | (apply WL.opN; exact yF; dsimp only [setD, z0, z1]) | refine WL.nil ?_ | refine WC.seqK fun Kx hK => ?_ | (refine hK _ _ ?_; clear hK) | refine WC.region ?_ | (apply WL.opN; (focus ((first | (apply SY.call (idxI_p _ _) Tryz.call134; (exact aD)) | exact yGeq | fail); all_goals infer_instance)); dsimp only [setD, z0, z1]) | refine WC.ret ?_)); all_goals (first | ((repeat clear hK); (repeat clear Kx))))
  all_goals ((refine ⟨trivial, _, rfl, ?_⟩; refine FinD.b ?_); exact idxG_iff _ _)
end Go.Proofs.YtjbepoofigokjaaGreat
namespace Go.Proofs.YtjbepoofigokjaaGreat
open Go.RowKit
set_option linter.unusedSimpArgs false

set_option maxHeartbeats 2000000
set_option maxRecDepth 100000
def covI (l : Cx) (s : List Vx) (i : Int) : Bool := decide (s.length < (l.getD i.toNat []).length) && faceG s (l.getD i.toNat [])
theorem cov1_p (l : Cx) (s : List Vx) (i : Int) (h0 : 0 ≤ i) (h1 : i < l.length) : Fn Tryz.prog 107 ([dI i] ++ [dP 1 false (dS Simps l), dP 1 false (dS Verts s)]) (dB (covI l s i)) := by
  obtain ⟨k, rfl⟩ : ∃ k : Nat, i = k := ⟨i.toNat, by omega⟩
  have hk : k < l.length := by omega
  have e : covI l s (k : Int) = (decide (s.length < l[k].length) && faceG s l[k]) := by
    unfold covI
    rw [Int.toNat_natCast, show l.getD k [] = l[k] by simp [List.getD, hk]]
  rw [e]
  show Fn Tryz.prog 107 [dI (k : Int), dP 1 false (dS Simps l), dP 1 false (dS Verts s)] _
  (refine Fn.intro1 Tryz.func107 rfl rfl ?_; simp only [Tryz.ntmps107, List.length_cons, List.length_nil, Nat.reduceAdd, Nat.reduceSub, List.replicate_succ, List.replicate_zero, List.cons_append, List.nil_append])
  ((repeat' (first | ((first | apply WL.opN | apply WD.opN); exact yF; dsimp only [setD, z0, z1]) | refine WL.nil ?_ | refine WD.nil ?_ | refine WC.seqK fun Kx hK => ?_ | (refine hK _ _ ?_; clear hK) | refine WC.region ?_ | (apply WC.draw; kernel_rfl; kernel_rfl) | ((first | apply WL.opG | apply WD.op); (focus (first | exact wN | (apply SYG.yes; (exact wY); ((first | (apply SY.call (face27_p _ _) Tryz.call108; (exact aD)) | exact yMove | exact yGtr | exact yLoad | exact yLen | exact yIndexaddr | exact yPick | fail); all_goals infer_instance)))); dsimp only [setD, z0, z1]) | ((first | refine WL.caseP rfl rfl rfl (fun h => ?_) (fun h => ?_) | refine WL.caseN rfl rfl rfl (fun h => ?_) (fun h => ?_) | refine WL.caseB rfl rfl rfl (fun h => ?_) (fun h => ?_) | refine WD.caseP rfl rfl rfl (fun h => ?_) (fun h => ?_) | refine WD.caseN rfl rfl rfl (fun h => ?_) (fun h => ?_) | refine WD.caseB rfl rfl rfl (fun h => ?_) (fun h => ?_)) <;> (first | (exfalso; first | omega | contradiction) | (dsimp only [z0, z1]))) | refine WC.ret ?_)); all_goals (first | ((repeat clear hK); (repeat clear Kx))))
  · rw [decide_eq_true (show s.length < l[k].length by omega), Bool.true_and]
    (refine ⟨trivial, _, rfl, ?_⟩; exact fD)
  · rw [decide_eq_false (show ¬ s.length < l[k].length by omega), Bool.false_and]
    (refine ⟨trivial, _, rfl, ?_⟩; exact fD)
abbrev MemI (l : List Int) := {v : Int // v ∈ l}
theorem coveredP_p (l : Cx) (at' : List Int) (s : List Vx) (hat : ∀ i ∈ at', 0 ≤ i ∧ i < l.length) : Fn Tryz.prog 68 [dS Simps l, dS Ints at', dS Verts s] (dB (at'.any (covI l s))) := by
  (refine Fn.intro1 Tryz.func68 rfl rfl ?_; simp only [Tryz.ntmps68, List.length_cons, List.length_nil, Nat.reduceAdd, Nat.reduceSub, List.replicate_succ, List.replicate_zero, List.cons_append, List.nil_append])
  ((repeat' (first | (apply WL.opN; exact yF; dsimp only [setD, z0, z1]) | refine WL.nil ?_ | refine WC.seqK fun Kx hK => ?_ | (refine hK _ _ ?_; clear hK) | refine WC.region ?_ | (apply WL.opN; (focus ((first | (apply SY.makeFun (A := fun v : MemI at' => [dI v.1]) (r := fun v => dB (covI l s v.1)) Tryz.call107 (fun v => cov1_p l s v.1 (hat v.1 v.2).1 (hat v.1 v.2).2) (fun _ => bare_B); (exact aD)) | (apply SY.call (cntI_p at' (covI l s)) Tryz.call106; (exact aD)) | exact yBox | fail); all_goals infer_instance)); dsimp only [setD, z0, z1]) | refine WC.ret ?_)); all_goals (first | ((repeat clear hK); (repeat clear Kx))))
  all_goals (refine ⟨trivial, _, rfl, ?_⟩; exact fD)
end Go.Proofs.YtjbepoofigokjaaGreat
namespace Go.Proofs.YtjbepoofigokjaaGreat
open Go.RowKit
set_option linter.unusedSimpArgs false

set_option maxHeartbeats 2000000
set_option maxRecDepth 100000
theorem CallC.nil1 {P : Program} {f : FuncId} {ds : List Dat} {hp1 : List HObj} {e : TypeId} {α : Type} {R : Rel α} {_gR : Good R} {xs : List α} (h : CallC P f ds hp1 fun d' hp2 => ∃ v, d' = dX v ∧ (hp2 = [hRow v e R xs] ∨ v = .slice none 0 0 ∧ xs = [] ∧ hp2 = [])) : CallC P f ds hp1 fun d' hp2 => ∃ v, d' = dX v ∧ hp2 = [hRow v e R xs] := ⟨fun P0 B w0 hp vs W hh hl hv => by
  refine Calls.mono (h.out P0 B w0 hp vs W hh hl hv) fun e' W' ⟨v, d, hp2, he, hk, hh2, hd⟩ => ?_
  obtain ⟨u, hdu, hk⟩ := hk
  rcases hk with rfl | ⟨rfl, rfl, rfl⟩
  · exact ⟨v, d, _, he, ⟨u, hdu, rfl⟩, hh2, hd⟩
  · exact ⟨v, d, [hRow (.slice none 0 0) e R []], he, ⟨_, hdu, rfl⟩, hh2.push (Ext.refl _) (by simp [hRow, Value.ownBlock]) Own.nil, Hp.pushed (Ext.refl _) (by simp [hRow, Value.ownBlock]) hd⟩⟩
theorem eqNilS : ∀ (x y : Operand) ad m c w, (do eqGuard .eql 22 x y (.slice ad m c) (.slice none 0 0); Go.binOp .eql 22 (.slice ad m c) (.slice none 0 0)).run Tryz.prog w = .ok (.bool ad.isNone) w := by
  intro x y ad m c w
  cases ad <;> (go_simp; try (unfold Go.binOp; simp only; unfold Op.equal Op.maxDepth Op.equalIn; simp [run_underlying Tryz.underlying22]))
theorem nil_A {α : Type} {R : Rel α} [Good R] {xs : List α} {I : Nat → Prop} {w : World} {v : Value} (h : (dS (Arr R) xs).rd I w v) : ∃ a m c, v = .slice a m c ∧ (a = none → m = 0) := by
  obtain ⟨ad, cap, rfl, h1, h2, h3⟩ := (h : Arr R I w v xs)
  refine ⟨_, _, _, rfl, fun hn => ?_⟩
  rcases Nat.eq_zero_or_pos xs.length with hz | hz
  · exact hz
  · obtain ⟨us, b, off, _, _, had, _, _⟩ := h3 0 hz
    rw [hn] at had; cases had
theorem clone_s (xs : Cx) (hl : xs.length ≤ 1000000) : CallC Tryz.prog 74 [dS Simps xs] [] fun d' hp2 => ∃ v, d' = dX v ∧ hp2 = [hRow v 34 Verts xs] := by
  refine CallC.nil1 ?_
  (refine CallC.intro Tryz.func74 rfl rfl (fun hp => ?_); simp only [Tryz.ntmps74, List.length_cons, List.length_nil, List.length_append, List.length_map, Nat.reduceAdd, Nat.reduceSub, List.replicate_succ, List.replicate_zero, List.cons_append, List.nil_append, List.map_cons, List.map_nil, List.append_assoc])
  ((repeat' (first |  (refine WL.openE 4 rfl fun b hb => ?_; dsimp only [z0, z1]) | (apply WL.opN; exact yF; dsimp only [setD, z0, z1]) | refine WL.nil ?_ | refine WC.seqK fun Kx hK => ?_ | (refine hK _ _ ?_; clear hK) | refine WC.region ?_ |  (apply WL.build01 elSi Verts; (intro _; dsimp only [setD, z0, z1]); all_goals (try infer_instance)) | ((first | apply WL.appK | apply WL.app1); (exact eD); exact OpD.t rfl; (exact oD); decide; (exact lD); (intro _; dsimp only [setD, z0, z1]); all_goals (try infer_instance)) | (apply WL.opN; (focus ((first | (apply SY.eqNil; exact OpD.t rfl; (exact fun _ _ _ h => nil_A h); exact len_A; exact eqNilS) | fail); all_goals infer_instance)); dsimp only [setD, z0, z1]) | (apply WC.cond; (exact oD); all_goals (intro h; try exact xD)) | refine WC.skip ?_ | refine WC.ret ?_ | refine ThenD.r ?_)); all_goals (first | ((repeat clear hK); (repeat clear Kx))))
  · exact ⟨trivial, _, [], rfl, rfl, _, rfl, .inr ⟨rfl, hb h, rfl⟩⟩
  · exact ⟨trivial, _, [_], rfl, rfl, _, rfl, .inl (by rw [List.nil_append])⟩
abbrev dEqL : Dat := dFun Tryz.prog (fun x : List Vx × List Vx => [dS Verts x.1, dS Verts x.2]) (fun x => dB (decide (x.1 = x.2)))
set_option maxHeartbeats 4000000 in
theorem compact_s (xs : Cx) (v : Value) (hs : SortL xs) (hl : xs.length ≤ 1000000) : CallC Tryz.prog 103 [dX v, dEqL] [hRow v 34 Verts xs] fun d' hp2 => ∃ v zs, (AscL zs ∧ ∀ u, u ∈ zs ↔ u ∈ xs) ∧ d' = dX v ∧ hp2 = [hRow v 34 Verts zs] := by
  (refine CallC.intro Tryz.func103 rfl rfl (fun hp => ?_); simp only [Tryz.ntmps103, List.length_cons, List.length_nil, List.length_append, List.length_map, Nat.reduceAdd, Nat.reduceSub, List.replicate_succ, List.replicate_zero, List.cons_append, List.nil_append, List.map_cons, List.map_nil, List.append_assoc])
  rcases Nat.lt_or_ge xs.length 2 with hx | hx
  · have ha : AscL xs := by
      match xs, hx with
      | [], _ => simp [AscL]
      | [x], _ => simp [AscL]
      | x :: y :: l, hx => simp at hx; omega
    ((repeat' (first | ((first | apply WL.opN | apply WD.opN); exact yF; dsimp only [setD, z0, z1]) | refine WL.nil ?_ | refine WC.seqK fun Kx hK => ?_ | (refine hK _ _ ?_; clear hK) | refine WC.region ?_ | ((first | apply WL.opN | apply WD.opN); (focus ((first | exact yLss | exact yLen | fail); all_goals infer_instance)); dsimp only [setD, z0, z1]) | (apply WC.condD; (exact oD); all_goals (intro h; try exact xD)) | refine WC.ret ?_ | refine ThenD.r ?_)); all_goals (first | ((repeat clear hK); (repeat clear Kx))))
    exact ⟨trivial, _, [_], rfl, rfl, _, xs, ⟨ha, fun _ => Iff.rfl⟩, rfl, rfl⟩
  refine WC.openQ (by omega) fun b cap hv hc1 hc2 => ?_
  subst hv
  (repeat' (first | ((first | apply WL.opN | apply WD.opN); exact yF; dsimp only [setD, z0, z1]) | refine WL.nil ?_ | refine WC.seqK fun Kx hK => ?_ | (refine hK _ _ ?_; clear hK) | refine WC.region ?_ | ((first | apply WL.opN | apply WD.opN); (focus ((first | exact yLss | exact yLen | fail); all_goals infer_instance)); dsimp only [setD, z0, z1]) | (apply WC.condD; (exact oD); all_goals (intro h; try exact xD)) | refine WC.skip ?_ | refine WC.block ?_))
  simp only [maxLen] at hc2
  (refine WC.loopU (X := Nat) (fun k => [(5, dI (k : Int)), (4, dA), (6, dA), (7, dA), (12, dA), (13, dA), (14, dA), (15, dA), (16, dA), (17, dA), (18, dA), (19, dA), (20, dA), (21, dA), (22, dA), (23, dA), (24, dA), (25, dA), (26, dA), (27, dA), (28, dA), (29, dA), (30, dA), (31, dA), (32, dA), (33, dA), (34, dA), (35, dA), (36, dA), (37, dA), (38, dA), (39, dA), (40, dA), (41, dA), (42, dA), (43, dA), (44, dA), (45, dA), (46, dA), (47, dA), (48, dA), (49, dA), (50, dA), (51, dA), (52, dA), (53, dA), (54, dA), (55, dA), (56, dA), (57, dA), (58, dA), (59, dA), (60, dA), (61, dA), (62, dA), (63, dA), (64, dA)]) (fun k => (hQ b xs.length cap 34 Verts xs :: hp)) (fun k => xs.length - k) (fun k => 1 ≤ k ∧ k ≤ xs.length ∧ GoodL xs k (xs.take k)) 1 ?start ?frame0 ?objs0 ?round)
  case start => exact ⟨Nat.le_refl _, by omega, goodL_start (by omega)⟩
  case frame0 => ((try dsimp only [upds, z0, z1]); repeat (first | exact LeF.nil | refine LeF.co (k := ?_)))
  case objs0 => rfl
  case round =>
    rintro k ⟨h1, h2, h3⟩
    dsimp only [upds, z0, z1]
    ((repeat' (first | ((first | apply WL.opN | apply WD.opN); exact yF; dsimp only [setD, z0, z1]) | refine WL.nil ?_ | refine WD.nil ?_ | refine WC.seqK fun Kx hK => ?_ | (refine hK _ _ ?_; clear hK) | (refine Kont.skip ?_; clear hK) | refine WC.region ?_ | (apply WC.draw; kernel_rfl; kernel_rfl) | ((first | apply WL.opN | apply WD.opN); (focus ((first | (apply SY.ixQ (k := k) elSi; exact OpD.t rfl; exact OpD.t rfl; rfl; omega) | (apply SY.ixQ (k := k - 1) elSi; exact OpD.t rfl; exact OpD.t rfl; omega; omega) | (apply SY.loadQ (k := k) tySi; exact OpD.t rfl; exact .head _; omega; omega) | (apply SY.loadQ (k := k - 1) tySi; exact OpD.t rfl; exact .head _; omega; omega) | (apply SY.dynF (x := ((xs[k], xs[k - 1]) : List Vx × List Vx)); (exact OpD.t rfl); (exact aD)) | (apply SY.fromQ (l := k) elSi; exact OpD.t rfl; exact OpD.t rfl; rfl; omega; omega) | exact yLss | exact yAdd | exact ySub | exact yLen | fail); all_goals infer_instance)); dsimp only [setD, z0, z1]) | (apply WC.condD; (exact oD); all_goals (intro h; try exact xD)) | refine WC.skip ?_ | refine WC.ret ?_ | refine WC.exit ?_ | refine WC.block ?_ | refine ThenD.n ?_)); all_goals (first | refine WC.id ?_ | ((repeat clear hK); (repeat clear Kx))))
    · have hk : k < xs.length := by omega
      have hg := goodL_skip h3 h1 hk h
      (refine WC.loopU (X := Nat × Nat × Cx) (fun x => [(5, dI (x.2.1 : Int)), (7, dI (x.1 : Int)), (32, dA), (33, dA), (34, dA), (35, dA), (36, dA), (37, dA), (38, dA), (39, dA), (40, dA), (41, dA), (42, dA), (43, dA), (44, dA), (45, dA), (46, dA), (47, dA), (48, dA), (49, dA), (50, dA), (51, dA), (52, dA), (53, dA), (54, dA), (55, dA), (56, dA), (57, dA), (58, dA)]) (fun x => (hQ b xs.length cap 34 Verts x.2.2 :: hp)) (fun x => xs.length - k - x.1) (fun x => 1 ≤ x.1 ∧ k + x.1 ≤ xs.length ∧ x.2.1 + 1 ≤ k + x.1 ∧ x.2.2.length = xs.length ∧ GoodL xs (k + x.1) (x.2.2.take x.2.1) ∧ x.2.2.drop (k + x.1 - 1) = xs.drop (k + x.1 - 1)) (1, k, xs) ?start ?frame0 ?objs0 ?round)
      case start => exact ⟨Nat.le_refl _, by omega, Nat.le_refl _, rfl, hg, rfl⟩
      case frame0 => ((try dsimp only [upds, z0, z1]); repeat (first | exact LeF.nil | refine LeF.co (k := ?_)))
      case objs0 => rfl
      case round =>
        rintro ⟨m, i, ys⟩ ⟨q1, q2, q3, q4, q5, q6⟩
        dsimp only [upds, z0, z1]
        simp only at q1 q2 q3 q4 q5 q6
        have hget : ∀ (j : Nat) (hj : k + m - 1 ≤ j) (hj' : j < xs.length), ys[j]'(by omega) = xs[j] := fun j hj hj' => by
          have e1 := congrArg (fun l => l[j - (k + m - 1)]?) q6
          simp only [List.getElem?_drop] at e1
          rw [show k + m - 1 + (j - (k + m - 1)) = j by omega, List.getElem?_eq_getElem (by omega), List.getElem?_eq_getElem hj'] at e1
          exact Option.some.inj e1
        ((repeat' (first | ((first | apply WL.opN | apply WD.opN); exact yF; dsimp only [setD, z0, z1]) | refine WL.nil ?_ | refine WD.nil ?_ | refine WC.seqK fun Kx hK => ?_ | (refine hK _ _ ?_; clear hK) | (refine Kont.skip ?_; clear hK) | refine WC.region ?_ | (apply WC.draw; kernel_rfl; kernel_rfl) |  (apply WL.storeQ (k := i) tySi; exact OpD.t rfl; exact OpD.t rfl; exact shape_K; omega; omega; dsimp only [setD, z0, z1]) |  (apply WL.clearQ (k := i) (n := xs.length - i) (x0 := ([] : List Vx)) Tryz.underlying22 Tryz.zeroValue34 rfl (fun _ _ => ArrK.nil' (by decide)); exact OpD.t rfl; omega; omega; omega; dsimp only [setD, z0, z1]) |  (apply WL.uptoC1 (l := i) elSi; exact OpD.t rfl; exact OpD.t rfl; rfl; omega; omega; omega; (simp; omega); dsimp only [setD, z0, z1]) | ((first | apply WL.opN | apply WD.opN); (focus ((first | (apply SY.ixQ (k := m) elSi; exact OpD.t rfl; exact OpD.t rfl; rfl; omega) | (apply SY.ixQ (k := m - 1) elSi; exact OpD.t rfl; exact OpD.t rfl; omega; omega) | (apply SY.ixQ (k := i) elSi; exact OpD.t rfl; exact OpD.t rfl; rfl; omega) | (apply SY.loadQ (k := k + m) tySi; exact OpD.t rfl; exact .head _; omega; omega) | (apply SY.loadQ (k := k + m - 1) tySi; exact OpD.t rfl; exact .head _; omega; omega) | (apply SY.dynF (x := ((ys[k + m], ys[k + m - 1]) : List Vx × List Vx)); (exact OpD.t rfl); (exact aD)) | (apply SY.fromQ (l := i) elSi; exact OpD.t rfl; exact OpD.t rfl; rfl; omega; omega) | exact yLss | exact yNot | exact yAdd | exact ySub | exact yLen | fail); all_goals infer_instance)); dsimp only [setD, z0, z1]) | (apply WC.condD; (exact oD); all_goals (intro h; try exact xD)) | (apply WC.condN; (exact oD); all_goals (intro h; try exact xD)) | refine WC.skip ?_ | refine WC.ret ?_ | refine WC.exit ?_ | refine WC.block ?_ | refine ThenD.n ?_ | refine ThenD.r ?_ | refine InBlockD.r ?_)); all_goals (first | ((repeat clear hK); (repeat clear Kx))))
        · have hkm : k + m < xs.length := by omega
          have e1 : ys[k + m]'(by omega) = xs[k + m] := hget _ (by omega) hkm
          have e2 : ys[k + m - 1]'(by omega) = xs[k + m - 1] := hget _ (by omega) (by omega)
          rw [e1, e2] at h
          rw [e1]
          (refine ⟨(m + 1, i + 1, ys.set i xs[k + m]), ?_, by first | omega | (simp only; omega), rfl, ?_⟩; rotate_left; ((try dsimp only [upds, z0, z1]); repeat (first | exact LeF.nil | refine LeF.co (k := ?_))); (try dsimp only))
          refine ⟨by omega, by omega, by omega, by simpa using q4, ?_, ?_⟩
          · have := goodL_push hs q5 (by omega) hkm h
            rw [Nat.add_assoc] at this
            have e3 : (ys.set i xs[k + m]).take (i + 1) = ys.take i ++ [xs[k + m]] := by
              rw [take_snoc' (by simp; omega), List.take_set_of_le (by omega)]
              simp
            rw [e3]; exact this
          · rw [show k + (m + 1) - 1 = (k + m - 1) + 1 by omega]
            have e4 : (ys.set i xs[k + m]).drop (k + m - 1 + 1) = ys.drop (k + m - 1 + 1) := by rw [List.drop_set_of_lt (by omega)]
            rw [e4]
            have := congrArg (List.drop 1) q6
            simpa [List.drop_drop] using this
        · have hkm : k + m < xs.length := by omega
          have e1 : ys[k + m]'(by omega) = xs[k + m] := hget _ (by omega) hkm
          have e2 : ys[k + m - 1]'(by omega) = xs[k + m - 1] := hget _ (by omega) (by omega)
          rw [e1, e2] at h
          (refine ⟨(m + 1, i, ys), ?_, by first | omega | (simp only; omega), rfl, ?_⟩; rotate_left; ((try dsimp only [upds, z0, z1]); repeat (first | exact LeF.nil | refine LeF.co (k := ?_))); (try dsimp only))
          refine ⟨by omega, by omega, by omega, q4, ?_, ?_⟩
          · have := goodL_skip q5 (by omega) hkm h
            rw [Nat.add_assoc] at this
            exact this
          · have := congrArg (List.drop 1) q6
            rw [List.drop_drop, List.drop_drop] at this
            rw [show k + (m + 1) - 1 = k + m - 1 + 1 by omega]
            exact this
        · have e1 : (ys.take i ++ List.replicate (xs.length - i) ([] : List Vx)).take i = ys.take i := by
            rw [List.take_left' (by simp; omega)]
          rw [e1]
          exact ⟨trivial, _, [_], rfl, rfl, _, _, goodL_end q5 (by omega), rfl, rfl⟩
    · (refine ⟨k + 1, ?_, by first | omega | (simp only; omega), rfl, ?_⟩; rotate_left; ((try dsimp only [upds, z0, z1]); repeat (first | exact LeF.nil | refine LeF.co (k := ?_))); (try dsimp only))
      refine ⟨by omega, by omega, ?_⟩
      rw [take_snoc' (by omega)]
      exact goodL_push hs h3 h1 (by omega) h
    · have e1 : xs.take k = xs := List.take_of_length_le (by omega)
      rw [e1] at h3
      exact ⟨trivial, _, [_], rfl, rfl, _, xs, goodL_end h3 (by omega), rfl, rfl⟩
end Go.Proofs.YtjbepoofigokjaaGreat
