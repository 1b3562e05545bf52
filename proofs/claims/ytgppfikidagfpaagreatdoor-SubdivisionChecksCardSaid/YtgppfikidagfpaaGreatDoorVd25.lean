/-
  Part 25 of the texts that the claims of this seat lean on: walks of the program's functions by contracts over symbolic frames, and plain laws of what they compute. No condition.
-/
import Derived.Test.YtgppfikidagfpaaGreatDoorVd7
import Derived.Test.YtgppfikidagfpaaGreatDoorVd11
import Derived.Test.YtgppfikidagfpaaGreatDoorVd16
import Derived.Test.YtgppfikidagfpaaGreatDoorVd23
import Derived.Test.YtgppfikidagfpaaGreatDoorVd24
set_option linter.unusedVariables false
set_option linter.unusedSimpArgs false
set_option linter.unusedSectionVars false
namespace Go.Proofs.YtgppfikidagfpaaGreatDoor
theorem dropWhile_split (v : Vx) : ∀ b : List Vx, (v ∉ b ∧ (b.dropWhile fun x => decide (x ≠ v)) = []) ∨ ∃ pre c, b = pre ++ v :: c ∧ v ∉ pre ∧ (b.dropWhile fun x => decide (x ≠ v)) = v :: c
  | [] => .inl ⟨by simp, rfl⟩
  | x :: b => by
    by_cases hx : x = v
    · subst hx
      exact .inr ⟨[], b, rfl, by simp, by rw [List.dropWhile_cons_of_neg (by simp)]⟩
    · rw [List.dropWhile_cons_of_pos (by simpa using hx)]
      rcases dropWhile_split v b with ⟨h1, h2⟩ | ⟨pre, c, h1, h2, h3⟩
      · exact .inl ⟨by simp [h1, Ne.symm hx], h2⟩
      · exact .inr ⟨x :: pre, c, by rw [h1]; rfl, by simp [h2, Ne.symm hx], h3⟩
theorem cmpV_irr (v : Vx) : cmpV v v = 0 := cmpV_eq.2 rfl
theorem faceG_inside : ∀ (a b : List Vx), Asc a → Asc b → faceG a b = insideV a b
  | [], b, _, _ => rfl
  | v :: a, b, ha, hb => by
    have ha' := ha
    unfold Asc at ha'
    rw [List.pairwise_cons] at ha'
    unfold faceG
    rcases dropWhile_split v b with ⟨h1, h2⟩ | ⟨pre, c, h1, h2, h3⟩
    · rw [if_pos h2]
      unfold insideV
      simp [h1]
    · rw [h3, if_neg (by simp)]
      have hb' := hb
      unfold Asc at hb'
      rw [h1, List.pairwise_append] at hb'
      rw [faceG_inside a (v :: c) ha'.2 hb'.2.1]
      have hv : v ∈ b := by rw [h1]; simp
      unfold insideV
      rw [List.all_cons, decide_eq_true hv, Bool.true_and, Bool.eq_iff_iff, List.all_eq_true, List.all_eq_true]
      constructor
      · intro h x hx
        have := h x hx
        simp only [decide_eq_true_eq] at this ⊢
        rw [h1]; exact List.mem_append.2 (.inr this)
      · intro h x hx
        have := h x hx
        simp only [decide_eq_true_eq] at this ⊢
        rw [h1] at this
        rcases List.mem_append.1 this with hp | hp
        · have h5 := hb'.2.2 x hp v (by simp)
          have h6 := cmpV_trans h5 (ha'.1 x hx)
          rw [cmpV_irr] at h6; omega
        · exact hp
def addI (m : List (Vx × List Int)) (v : Vx) (i : Int) : List (Vx × List Int) := putM m v ((lookM m v).getD [] ++ [i])
def incS (m : List (Vx × List Int)) (s : List Vx) (i : Int) : List (Vx × List Int) := s.foldl (fun m v => addI m v i) m
def incC (l : Cx) : List (Vx × List Int) := (l.zipIdx).foldl (fun m p => incS m p.1 (p.2 : Int)) []
theorem incS_snoc {m : List (Vx × List Int)} {s : List Vx} {i : Int} {j : Nat} (h : j < s.length) : incS m (s.take (j + 1)) i = addI (incS m (s.take j) i) s[j] i := by
  unfold incS; rw [take_snoc' h, List.foldl_append]; rfl
theorem incC_snoc {l : Cx} {i : Nat} (h : i < l.length) : incC (l.take (i + 1)) = incS (incC (l.take i)) l[i] (i : Int) := by
  unfold incC
  rw [take_snoc' h, List.zipIdx_append, List.foldl_append]
  simp [List.length_take, Nat.min_eq_left (Nat.le_of_lt h)]
def atM (m : List (Vx × List Int)) (v : Vx) : List Int := (lookM m v).getD []
theorem lookM_putM {K V : Type} [DecidableEq K] {m : List (K × V)} {x y : K} {v : V} : lookM (putM m x v) y = if y = x then some v else lookM m y := by
  unfold putM
  by_cases h : (lookM m x).isSome
  · rw [if_pos h]
    induction m with
    | nil => simp [lookM] at h
    | cons p m ih =>
      rw [List.map_cons]
      by_cases hp : p.1 = x
      · rw [if_pos hp]
        by_cases hy : y = x
        · rw [if_pos hy]; unfold lookM
          rw [List.find?_cons_of_pos (by simp [hy])]; rfl
        · rw [if_neg hy]; unfold lookM
          rw [List.find?_cons_of_neg (by simpa using Ne.symm hy), List.find?_cons_of_neg (by rw [hp]; simpa using Ne.symm hy)]
          clear ih h hp
          induction m with
          | nil => rfl
          | cons q m ih =>
            rw [List.map_cons]
            by_cases hq : q.1 = x
            · rw [if_pos hq, List.find?_cons_of_neg (by simpa using Ne.symm hy), List.find?_cons_of_neg (by rw [hq]; simpa using Ne.symm hy)]
              exact ih
            · rw [if_neg hq]
              by_cases hqy : q.1 = y
              · rw [List.find?_cons_of_pos (by simpa using hqy), List.find?_cons_of_pos (by simpa using hqy)]
              · rw [List.find?_cons_of_neg (by simpa using hqy), List.find?_cons_of_neg (by simpa using hqy)]
                exact ih
      · rw [if_neg hp]
        have h' : (lookM m x).isSome := by
          unfold lookM at h ⊢
          rwa [List.find?_cons_of_neg (by simpa using hp)] at h
        have := ih h'
        unfold lookM at this ⊢
        by_cases hpy : p.1 = y
        · have hyx : y ≠ x := fun e => hp (hpy.trans e)
          rw [List.find?_cons_of_pos (by simpa using hpy), if_neg hyx, List.find?_cons_of_pos (by simpa using hpy)]
        · rw [List.find?_cons_of_neg (by simpa using hpy), List.find?_cons_of_neg (by simpa using hpy)]
          exact this
  · rw [if_neg h]
    have h0 : lookM m x = none := by simpa using h
    unfold lookM at h0 ⊢
    rw [List.find?_append]
    by_cases hy : y = x
    · subst hy
      rw [if_pos rfl]
      have : m.find? (fun p => decide (p.1 = y)) = none := by simpa using h0
      rw [this]; simp
    · rw [if_neg hy, List.find?_cons_of_neg (by simpa using Ne.symm hy)]
      simp
theorem atM_addI {m : List (Vx × List Int)} {v u : Vx} {i : Int} : atM (addI m v i) u = if u = v then atM m v ++ [i] else atM m u := by
  unfold atM addI
  rw [lookM_putM]
  split <;> rfl
theorem mem_incS {i j : Int} {v : Vx} : ∀ {s : List Vx} {m : List (Vx × List Int)}, j ∈ atM (incS m s i) v ↔ j ∈ atM m v ∨ (j = i ∧ v ∈ s)
  | [], m => by simp [incS]
  | u :: s, m => by
    show j ∈ atM (incS (addI m u i) s i) v ↔ _
    rw [mem_incS (s := s), atM_addI]
    by_cases hv : v = u
    · subst hv
      rw [if_pos rfl, List.mem_append, List.mem_singleton, List.mem_cons]
      constructor
      · rintro ((h | h) | h)
        · exact .inl h
        · exact .inr ⟨h, .inl rfl⟩
        · exact .inr ⟨h.1, .inr h.2⟩
      · rintro (h | h)
        · exact .inl (.inl h)
        · exact .inl (.inr h.1)
    · rw [if_neg hv, List.mem_cons]; simp [hv]
theorem mem_incC_take {l : Cx} {j : Int} {v : Vx} : ∀ {n : Nat}, n ≤ l.length → (j ∈ atM (incC (l.take n)) v ↔ ∃ (k : Nat) (h : k < l.length), k < n ∧ j = k ∧ v ∈ l[k])
  | 0, _ => by simp [incC, atM, lookM]
  | n + 1, hn => by
    rw [incC_snoc (by omega), mem_incS, mem_incC_take (by omega)]
    constructor
    · rintro (⟨k, h, h1, h2, h3⟩ | ⟨h1, h2⟩)
      · exact ⟨k, h, by omega, h2, h3⟩
      · exact ⟨n, by omega, by omega, h1, h2⟩
    · rintro ⟨k, h, h1, h2, h3⟩
      by_cases hk : k = n
      · subst hk; exact .inr ⟨h2, h3⟩
      · exact .inl ⟨k, h, by omega, h2, h3⟩
theorem mem_incC {l : Cx} {j : Int} {v : Vx} : j ∈ atM (incC l) v ↔ ∃ (k : Nat) (h : k < l.length), j = k ∧ v ∈ l[k] := by
  have := mem_incC_take (l := l) (j := j) (v := v) (Nat.le_refl _)
  rw [List.take_length] at this
  rw [this]
  exact ⟨fun ⟨k, h, _, h2, h3⟩ => ⟨k, h, h2, h3⟩, fun ⟨k, h, h2, h3⟩ => ⟨k, h, h, h2, h3⟩⟩
theorem atM_bnd {l : Cx} {v : Vx} : ∀ i ∈ atM (incC l) v, 0 ≤ i ∧ i < l.length := fun i hi => by
  obtain ⟨k, h, rfl, _⟩ := mem_incC.1 hi
  omega
theorem anyCov {l : Cx} (h : ∀ s ∈ l, chkV s = 0) {s : List Vx} (hs : chkV s = 0) {v : Vx} (hv : v ∈ s) : (atM (incC l) v).any (covI l s) = coveredC l s := by
  have asc : ∀ s ∈ l, Asc s := fun s hs => (chkV_zero.1 (h s hs)).2.2.2
  rw [Bool.eq_iff_iff, List.any_eq_true, coveredC_iff]
  constructor
  · rintro ⟨i, hi, hc⟩
    obtain ⟨k, hk, rfl, _⟩ := mem_incC.1 hi
    have hm := List.getElem_mem hk
    unfold covI at hc
    rw [Int.toNat_natCast, show l.getD k [] = l[k] by simp [List.getD, hk], Bool.and_eq_true, decide_eq_true_eq, faceG_inside _ _ (chkV_zero.1 hs).2.2.2 (asc _ hm)] at hc
    exact ⟨l[k], hm, hc.1, hc.2⟩
  · rintro ⟨x, hx, h1, h2⟩
    obtain ⟨k, hk, rfl⟩ := List.getElem_of_mem hx
    refine ⟨(k : Int), mem_incC.2 ⟨k, hk, rfl, ?_⟩, ?_⟩
    · unfold insideV at h2
      have := List.all_eq_true.1 h2 v hv
      simpa using this
    · unfold covI
      rw [Int.toNat_natCast, show l.getD k [] = l[k] by simp [List.getD, hk], Bool.and_eq_true, decide_eq_true_eq, faceG_inside _ _ (chkV_zero.1 hs).2.2.2 (asc _ hx)]
      exact ⟨h1, h2⟩
end Go.Proofs.YtgppfikidagfpaaGreatDoor
namespace Go.Proofs.YtgppfikidagfpaaGreatDoor
theorem mem_shared {a b : List Vx} {p : Bool} {x : Vx} : x ∈ sharedV a b p ↔ x ∈ a ∧ decide (x ∈ b) = p := by unfold sharedV; rw [List.mem_filter]; simp
theorem shared_sub {a b : List Vx} {p : Bool} : (sharedV a b p).Sublist a := List.filter_sublist
theorem asc_shared {a b : List Vx} {p : Bool} (h : Asc a) : Asc (sharedV a b p) := List.Pairwise.sublist shared_sub h
theorem sub_good {a s : List Vx} (ha : chkV a = 0) (hs : s.Sublist a) (hne : s ≠ []) : chkV s = 0 := by
  obtain ⟨h1, h2, h3, h4⟩ := chkV_zero.1 ha
  refine chkV_zero.2 ⟨fun h => hne (List.eq_nil_of_length_eq_zero h), Nat.le_trans hs.length_le h2, fun v hv => h3 v (hs.subset hv), List.Pairwise.sublist hs h4⟩
theorem asc_nodup {a : List Vx} (h : Asc a) : a.Nodup := List.Pairwise.imp (fun {x y} hxy e => by
  subst e
  have := cmpV_eq.2 (rfl : x = x)
  omega) h
theorem ne_nil {s : List Vx} (h : 0 < s.length) : s ≠ [] := fun e => by subst e; simp at h
end Go.Proofs.YtgppfikidagfpaaGreatDoor
namespace Go.Proofs.YtgppfikidagfpaaGreatDoor
theorem subsV_mem : ∀ (k : Nat) (s x : List Vx), x ∈ subsV k s ↔ x.Sublist s ∧ x.length = k
  | 0, s, x => by
    have : subsV 0 s = [[]] := by unfold subsV; rfl
    rw [this, List.mem_singleton]
    constructor
    · rintro rfl; exact ⟨List.nil_sublist _, rfl⟩
    · rintro ⟨_, h⟩; exact List.eq_nil_of_length_eq_zero h
  | k + 1, [], x => by
    simp only [subsV, List.not_mem_nil, List.sublist_nil, false_iff]
    rintro ⟨rfl, h⟩; simp at h
  | k + 1, v :: s, x => by
    unfold subsV
    rw [List.mem_append, List.mem_map, subsV_mem (k + 1) s x]
    constructor
    · rintro (⟨y, hy, rfl⟩ | ⟨h1, h2⟩)
      · obtain ⟨h1, h2⟩ := (subsV_mem k s y).1 hy
        exact ⟨h1.cons_cons v, by simp [h2]⟩
      · exact ⟨h1.cons v, h2⟩
    · rintro ⟨h1, h2⟩
      rcases List.sublist_cons_iff.1 h1 with h | ⟨y, rfl, h⟩
      · exact .inr ⟨h, h2⟩
      · exact .inl ⟨y, (subsV_mem k s y).2 ⟨h, by simpa using h2⟩, rfl⟩
theorem subsV_zero (s : List Vx) : (subsV 0 s).length = 1 := by unfold subsV; rfl
theorem subsV_next (k : Nat) (v : Vx) (s : List Vx) : (subsV (k + 1) (v :: s)).length = (subsV k s).length + (subsV (k + 1) s).length := by
  conv => lhs; unfold subsV
  rw [List.length_append, List.length_map]
theorem face_good {a s : List Vx} {k : Nat} (hs : chkV s = 0) (hk : 0 < k) (h : a ∈ subsV k s) : chkV a = 0 ∧ a.Sublist s ∧ a.length = k := by
  obtain ⟨h1, h2⟩ := (subsV_mem _ _ _).1 h
  exact ⟨sub_good hs h1 (ne_nil (by omega)), h1, h2⟩
theorem facesV_good {s : List Vx} (hs : chkV s = 0) {k : Nat} (h1 : 0 < k) (h2 : k ≤ s.length) : facesV s k = (subsV k s, 0) := by
  unfold facesV
  rw [if_neg (by simp [hs]), if_neg (by omega)]
  simp
end Go.Proofs.YtgppfikidagfpaaGreatDoor
namespace Go.Proofs.YtgppfikidagfpaaGreatDoor
open Go.RowKit
set_option linter.unusedSimpArgs false

set_option maxHeartbeats 2000000
set_option maxRecDepth 100000
def twI (l : Cx) (i k : Nat) : Bool := decide (i ≠ k) && insideV (l.getD i []) (l.getD k [])
theorem any_snoc {n : Nat} {p : Nat → Bool} : (List.range (n + 1)).any p = ((List.range n).any p || p n) := by rw [List.range_succ, List.any_append]; simp
theorem any_yes {n k : Nat} {p : Nat → Bool} (hk : k < n) (h : p k = true) : (List.range n).any p = true := List.any_eq_true.2 ⟨k, List.mem_range.2 hk, h⟩
theorem getD_at {l : Cx} {k : Nat} (h : k < l.length) : l.getD k [] = l[k] := by simp [List.getD, h]
theorem chk27_c (l : Cx) : Fn Tryz.prog 49 [dS Cpx l] (dI (chkC l)) := by
  (refine Fn.intro1 Tryz.func49 rfl rfl ?_; simp only [Tryz.ntmps49, List.length_cons, List.length_nil, Nat.reduceAdd, Nat.reduceSub, List.replicate_succ, List.replicate_zero, List.cons_append, List.nil_append])
  ((repeat' (first | ((first | apply WL.opN | apply WD.opN); exact yF; dsimp only [setD, z0, z1]) | refine WL.nil ?_ | refine WC.seqK fun Kx hK => ?_ | (refine hK _ _ ?_; clear hK) | refine WC.region ?_ | ((first | apply WL.opG | apply WD.op); (focus (first | exact wN | (apply SYG.yes; (exact wY); ((first | exact yGtr | exact yLen | exact yFieldaddr | exact yBox | fail); all_goals infer_instance)))); dsimp only [setD, z0, z1]) | (apply WC.condD; (exact oD); all_goals (intro h; try exact xD)) | refine WC.skip ?_ | refine WC.ret ?_ | refine WC.block ?_ | refine ThenD.r ?_)); all_goals (first | refine WC.id ?_ | ((repeat clear hK); (repeat clear Kx))))
  · (refine ⟨trivial, _, rfl, ?_⟩; refine FinD.i ?_)
    unfold chkC; rw [if_pos (by omega)]
  · have hs : chkC l = if chkO none l ≠ 0 then chkO none l else if twiceC l = true then 7 else 0 := by unfold chkC; rw [if_neg (by omega)]
    (refine WC.loopU (X := Nat) (fun k => [(4, dI (k : Int)), (2, dA), (5, dA), (13, dA), (14, dA), (15, dA), (16, dA), (17, dA), (18, dA), (19, dA), (20, dA), (21, dA), (22, dA), (23, dA), (24, dA), (25, dA), (26, dA), (27, dA), (28, dA), (29, dA), (30, dA), (31, dA), (32, dA), (33, dA), (34, dA), (35, dA), (36, dA), (37, dA), (38, dA), (39, dA), (40, dA), (41, dA)]) (fun k => []) (fun k => l.length - k) (fun k => k ≤ l.length ∧ chkO none l = chkO (l.take k).getLast? (l.drop k)) 0 ?start ?frame0 ?objs0 ?round)
    case start => exact ⟨Nat.zero_le _, rfl⟩
    case frame0 => ((try dsimp only [upds, z0, z1]); repeat (first | exact LeF.nil | refine LeF.co (k := ?_)))
    case objs0 => rfl
    case round =>
      rintro k ⟨h3, h4⟩
      dsimp only [upds, z0, z1]
      ((repeat' (first | ((first | apply WL.opN | apply WD.opN); exact yF; dsimp only [setD, z0, z1]) | refine WL.nil ?_ | refine WD.nil ?_ | refine WC.seqK fun Kx hK => ?_ | (refine hK _ _ ?_; clear hK) | (refine Kont.skip ?_; clear hK) | refine WC.region ?_ | (apply WC.draw; kernel_rfl; kernel_rfl) | ((first | apply WL.opG | apply WD.op); (focus (first | exact wN | (apply SYG.yes; (exact wY); ((first | (apply SY.call (cmpL_c _ _) Tryz.call74; (exact aD)) | (apply SY.call (chk_c _) Tryz.call12; (exact aD)) | (apply SY.ixJ elSi (OpD.t rfl) (OpD.t rfl) (k - 1); omega; omega) | exact yMove | exact yLss | exact yGtr | exact yGeq | exact yNeq | exact yAdd | exact ySub | exact yLoad | exact yLen | exact yIndexaddr | exact yPick | fail); all_goals infer_instance)))); dsimp only [setD, z0, z1]) | ((first | refine WL.caseP rfl rfl rfl (fun h => ?_) (fun h => ?_) | refine WL.caseN rfl rfl rfl (fun h => ?_) (fun h => ?_) | refine WL.caseB rfl rfl rfl (fun h => ?_) (fun h => ?_) | refine WD.caseP rfl rfl rfl (fun h => ?_) (fun h => ?_) | refine WD.caseN rfl rfl rfl (fun h => ?_) (fun h => ?_) | refine WD.caseB rfl rfl rfl (fun h => ?_) (fun h => ?_)) <;> (first | (exfalso; first | omega | contradiction) | (dsimp only [z0, z1]))) | (apply WC.condF; (exact oD); (with_reducible rfl)) | (apply WC.condD; (exact oD); all_goals (intro h; try exact xD)) | (apply WC.condN; (exact oD); all_goals (intro h; try exact xD)) | refine WC.skip ?_ | refine WC.ret ?_ | refine WC.exit ?_ | refine WC.block ?_ | refine ThenD.n ?_ | refine ThenD.r ?_ | refine InBlockD.r ?_)); all_goals (first | refine WC.id ?_ | ((repeat clear hK); (repeat clear Kx))))
      all_goals try (rw [chkO_drop l k (by omega)] at h4)
      · (refine ⟨trivial, _, rfl, ?_⟩; refine FinD.i ?_)
        rw [hs, h4, if_pos h, if_pos h]
      · (refine ⟨trivial, _, rfl, ?_⟩; refine FinD.i ?_)
        have h5 : ¬ chkV l[k] ≠ 0 := by omega
        rw [if_neg h5, lastC_take _ _ (by omega) (by omega), if_pos (by simpa using h)] at h4
        rw [hs, h4]; rfl
      · (refine ⟨k + 1, ?_, by first | omega | (simp only; omega), rfl, ?_⟩; rotate_left; ((try dsimp only [upds, z0, z1]); repeat (first | exact LeF.nil | refine LeF.co (k := ?_))); (try dsimp only))
        refine ⟨by omega, ?_⟩
        have h5 : ¬ chkV l[k] ≠ 0 := by omega
        rw [h4, if_neg h5, lastC_take _ _ (by omega) (by omega), if_neg (by simpa using h)]
      · (refine ⟨k + 1, ?_, by first | omega | (simp only; omega), rfl, ?_⟩; rotate_left; ((try dsimp only [upds, z0, z1]); repeat (first | exact LeF.nil | refine LeF.co (k := ?_))); (try dsimp only))
        refine ⟨by omega, ?_⟩
        have h5 : ¬ chkV l[k] ≠ 0 := by omega
        have h0 : (l.take k).getLast? = none := by
          have : k = 0 := by omega
          rw [this]; rfl
        rw [h4, if_neg h5, h0]
        rfl
      · rw [List.drop_of_length_le (by omega)] at h4
        have h4' : chkO none l = 0 := h4
        have hs' : chkC l = if twiceC l = true then 7 else 0 := by rw [hs, if_neg (by omega)]
        clear hs h4
        (refine WC.loopU (X := Nat) (fun i => [(6, dI (i : Int)), (2, dA), (7, dA), (42, dA), (43, dA), (44, dA), (45, dA), (46, dA), (47, dA), (48, dA), (49, dA), (50, dA), (51, dA), (52, dA), (53, dA), (54, dA), (55, dA), (56, dA), (57, dA), (58, dA), (59, dA), (60, dA), (61, dA), (62, dA), (63, dA), (64, dA), (65, dA), (66, dA), (67, dA)]) (fun i => []) (fun i => l.length - i) (fun i => i ≤ l.length ∧ (List.range i).any (fun i => (List.range l.length).any (twI l i)) = false) 0 ?start ?frame0 ?objs0 ?round)
        case start => exact ⟨Nat.zero_le _, rfl⟩
        case frame0 => ((try dsimp only [upds, z0, z1]); repeat (first | exact LeF.nil | refine LeF.co (k := ?_)))
        case objs0 => rfl
        case round =>
          rintro i ⟨h5, h6⟩
          dsimp only [upds, z0, z1]
          ((repeat' (first | ((first | apply WL.opN | apply WD.opN); exact yF; dsimp only [setD, z0, z1]) | refine WL.nil ?_ | refine WC.seqK fun Kx hK => ?_ | (refine hK _ _ ?_; clear hK) | (refine Kont.skip ?_; clear hK) | refine WC.region ?_ | ((first | apply WL.opG | apply WD.op); (focus (first | exact wN | (apply SYG.yes; (exact wY); ((first | exact yLss | exact yLen | fail); all_goals infer_instance)))); dsimp only [setD, z0, z1]) | (apply WC.condD; (exact oD); all_goals (intro h; try exact xD)) | refine WC.skip ?_ | refine WC.ret ?_ | refine WC.exit ?_ | refine WC.block ?_)); all_goals (first | refine WC.id ?_ | ((repeat clear hK); (repeat clear Kx))))
          · (refine WC.loopU (X := Nat) (fun j => [(7, dI (j : Int)), (2, dA), (48, dA), (49, dA), (50, dA), (51, dA), (52, dA), (53, dA), (54, dA), (55, dA), (56, dA), (57, dA), (58, dA), (59, dA), (60, dA), (61, dA), (62, dA), (63, dA), (64, dA), (65, dA), (66, dA), (67, dA)]) (fun j => []) (fun j => l.length - j) (fun j => j ≤ l.length ∧ (List.range j).any (twI l i) = false) 0 ?start ?frame0 ?objs0 ?round)
            case start => exact ⟨Nat.zero_le _, rfl⟩
            case frame0 => ((try dsimp only [upds, z0, z1]); repeat (first | exact LeF.nil | refine LeF.co (k := ?_)))
            case objs0 => rfl
            case round =>
              rintro j ⟨h7, h8⟩
              dsimp only [upds, z0, z1]
              ((repeat' (first | ((first | apply WL.opN | apply WD.opN); exact yF; dsimp only [setD, z0, z1]) | refine WL.nil ?_ | refine WD.nil ?_ | refine WC.seqK fun Kx hK => ?_ | (refine hK _ _ ?_; clear hK) | (refine Kont.skip ?_; clear hK) | refine WC.region ?_ | (apply WC.draw; kernel_rfl; kernel_rfl) | ((first | apply WL.opG | apply WD.op); (focus (first | exact wN | (apply SYG.yes; (exact wY); ((first | (apply SY.call (inside_c _ _) Tryz.call109; (exact aD)) | exact yMove | exact yLss | exact yNeq | exact yAdd | exact yLoad | exact yLen | exact yIndexaddr | exact yPick | fail); all_goals infer_instance)))); dsimp only [setD, z0, z1]) | ((first | refine WL.caseP rfl rfl rfl (fun h => ?_) (fun h => ?_) | refine WL.caseN rfl rfl rfl (fun h => ?_) (fun h => ?_) | refine WL.caseB rfl rfl rfl (fun h => ?_) (fun h => ?_) | refine WD.caseP rfl rfl rfl (fun h => ?_) (fun h => ?_) | refine WD.caseN rfl rfl rfl (fun h => ?_) (fun h => ?_) | refine WD.caseB rfl rfl rfl (fun h => ?_) (fun h => ?_)) <;> (first | (exfalso; first | omega | contradiction) | (dsimp only [z0, z1]))) | (apply WC.condF; (exact oD); (with_reducible rfl)) | (apply WC.condD; (exact oD); all_goals (intro h; try exact xD)) | (apply WC.cond; (exact oD); all_goals (intro h; try exact xD)) | refine WC.skip ?_ | refine WC.ret ?_ | refine WC.exit ?_ | refine WC.block ?_ | refine ThenD.n ?_ | refine ThenD.r ?_ | refine InBlockD.r ?_)); all_goals (first | ((repeat clear hK); (repeat clear Kx))))
              · (refine ⟨trivial, _, rfl, ?_⟩; refine FinD.i ?_)
                have e : twI l i j = true := by
                  unfold twI
                  rw [getD_at (by omega), getD_at (by omega), h, decide_eq_true (by omega)]; rfl
                rw [hs', if_pos (show twiceC l = true from any_yes (k := i) (by omega) (any_yes (k := j) (by omega) e))]
              · (refine ⟨j + 1, ?_, by first | omega | (simp only; omega), rfl, ?_⟩; rotate_left; ((try dsimp only [upds, z0, z1]); repeat (first | exact LeF.nil | refine LeF.co (k := ?_))); (try dsimp only))
                refine ⟨by omega, ?_⟩
                rw [any_snoc, h8]
                unfold twI
                rw [getD_at (by omega), getD_at (by omega), h, Bool.and_false]; rfl
              · (refine ⟨j + 1, ?_, by first | omega | (simp only; omega), rfl, ?_⟩; rotate_left; ((try dsimp only [upds, z0, z1]); repeat (first | exact LeF.nil | refine LeF.co (k := ?_))); (try dsimp only))
                refine ⟨by omega, ?_⟩
                rw [any_snoc, h8]
                unfold twI
                rw [decide_eq_false (by omega)]; rfl
              · rw [show j = l.length by omega] at h8
                (refine ⟨i + 1, ?_, by first | omega | (simp only; omega), rfl, ?_⟩; rotate_left; ((try dsimp only [upds, z0, z1]); repeat (first | exact LeF.nil | refine LeF.co (k := ?_))); (try dsimp only))
                refine ⟨by omega, ?_⟩
                rw [any_snoc, h6, h8]; rfl
          · rw [show i = l.length by omega] at h6
            (refine ⟨trivial, _, rfl, ?_⟩; refine FinD.i ?_)
            have e : twiceC l = false := h6
            rw [hs', e]; rfl
theorem chkO_all : ∀ (l : Cx) (p : Option (List Vx)), chkO p l = 0 → ∀ s ∈ l, chkV s = 0
  | [], _, _, s, hs => by simp at hs
  | x :: l, p, h, s, hs => by
    unfold chkO at h
    by_cases h1 : chkV x ≠ 0
    · rw [if_pos h1] at h; exact absurd h h1
    · rw [if_neg h1] at h
      rcases List.mem_cons.1 hs with rfl | hs
      · omega
      · refine chkO_all l (some x) ?_ s hs
        revert h
        split
        · intro h; omega
        · exact id
theorem chkC_good {l : Cx} (h : chkC l = 0) : l.length ≤ 4096 ∧ chkO none l = 0 ∧ twiceC l = false ∧ ∀ s ∈ l, chkV s = 0 := by
  unfold chkC at h
  by_cases h1 : 4096 < l.length
  · rw [if_pos h1] at h; omega
  rw [if_neg h1] at h
  by_cases h2 : chkO none l ≠ 0
  · rw [if_pos h2] at h; exact absurd h h2
  rw [if_neg h2] at h
  refine ⟨by omega, by omega, ?_, chkO_all l none (by omega)⟩
  cases h3 : twiceC l with
  | false => rfl
  | true => rw [h3, if_pos rfl] at h; omega
end Go.Proofs.YtgppfikidagfpaaGreatDoor
namespace Go.Proofs.YtgppfikidagfpaaGreatDoor
theorem chkO_asc : ∀ (l : Cx) (p : Option (List Vx)), chkO p l = 0 → AscL l ∧ (∀ u, p = some u → ∀ s ∈ l, cmpL u s < 0) ∧ ∀ s ∈ l, chkV s = 0
  | [], p, _ => ⟨by simp [AscL], by simp, by simp⟩
  | s :: l, p, h => by
    unfold chkO at h
    by_cases h1 : chkV s ≠ 0
    · rw [if_pos h1] at h; exact absurd h h1
    rw [if_neg h1] at h
    have key : chkO (some s) l = 0 ∧ ∀ u, p = some u → cmpL u s < 0 := by
      cases p with
      | none => exact ⟨by simpa using h, fun u hu => by cases hu⟩
      | some u =>
        by_cases h2 : 0 ≤ cmpL u s
        · simp only [h2, decide_true, if_true] at h
          exact absurd h (by decide)
        · simp only [h2, decide_false, Bool.false_eq_true, if_false] at h
          exact ⟨h, fun u' hu => by cases hu; omega⟩
    obtain ⟨h3, h4, h5⟩ := chkO_asc l (some s) key.1
    have h6 := h4 s rfl
    refine ⟨List.pairwise_cons.2 ⟨h6, h3⟩, fun u hu x hx => ?_, fun x hx => ?_⟩
    · have h7 := key.2 u hu
      rcases List.mem_cons.1 hx with rfl | hx
      · exact h7
      · exact cmpL_lt_trans h7 (h6 x hx)
    · rcases List.mem_cons.1 hx with rfl | hx
      · omega
      · exact h5 x hx
theorem chkO_of : ∀ (l : Cx) (p : Option (List Vx)), AscL l → (∀ u, p = some u → ∀ s ∈ l, cmpL u s < 0) → (∀ s ∈ l, chkV s = 0) → chkO p l = 0
  | [], p, _, _, _ => rfl
  | s :: l, p, ha, hp, hc => by
    unfold chkO
    rw [if_neg (by have := hc s (by simp); omega), if_neg ?_]
    · unfold AscL at ha
      rw [List.pairwise_cons] at ha
      exact chkO_of l (some s) ha.2 (fun u hu x hx => by cases hu; exact ha.1 x hx) fun x hx => hc x (by simp [hx])
    · cases p with
      | none => simp
      | some u =>
        have := hp u rfl s (by simp)
        simp only [decide_eq_true_eq]; omega
theorem inside_lt {a b : List Vx} (ha : Asc a) (hb : Asc b) (h : insideV a b = true) (hne : a ≠ b) : a.length < b.length := by
  have hsub : ∀ x ∈ a, x ∈ b := fun x hx => by
    have := List.all_eq_true.1 h x hx
    simpa using this
  have e : sharedV b a true = a := asc_ext (asc_shared hb) ha fun x => by
    rw [mem_shared]
    constructor
    · intro ⟨_, h⟩; simpa using h
    · intro hx; exact ⟨hsub x hx, by simpa using hx⟩
  have hs : a.Sublist b := by rw [← e]; exact shared_sub
  rcases Nat.lt_or_ge a.length b.length with h1 | h1
  · exact h1
  · exact absurd (hs.eq_of_length_le h1) hne
theorem twice_any {l : Cx} (ha : AscL l) (hc : ∀ s ∈ l, chkV s = 0) : twiceC l = l.any fun s => coveredC l s := by
  have asc : ∀ s ∈ l, Asc s := fun s hs => (chkV_zero.1 (hc s hs)).2.2.2
  rw [Bool.eq_iff_iff]
  unfold twiceC
  simp only [List.any_eq_true, List.mem_range, Bool.and_eq_true, decide_eq_true_eq, coveredC_iff]
  constructor
  · rintro ⟨i, hi, k, hk, hne, h⟩
    rw [getD_at hi, getD_at hk] at h
    have hmi := List.getElem_mem hi
    have hmk := List.getElem_mem hk
    refine ⟨l[i], hmi, l[k], hmk, inside_lt (asc _ hmi) (asc _ hmk) h fun e => ?_, h⟩
    have hp := List.pairwise_iff_getElem.1 ha.nodup
    rcases Nat.lt_or_gt_of_ne hne with h1 | h1
    · exact hp i k hi hk h1 e
    · exact hp k i hk hi h1 e.symm
  · rintro ⟨s, hs, x, hx, hlt, h⟩
    obtain ⟨i, hi, rfl⟩ := List.getElem_of_mem hs
    obtain ⟨k, hk, rfl⟩ := List.getElem_of_mem hx
    exact ⟨i, hi, k, hk, fun e => by subst e; omega, by rw [getD_at hi, getD_at hk]; exact h⟩
def GoodX (l : Cx) : Prop := l.length ≤ 4096 ∧ AscL l ∧ (∀ s ∈ l, chkV s = 0) ∧ ∀ s ∈ l, coveredC l s = false
theorem goodX_iff {l : Cx} : chkC l = 0 ↔ GoodX l := by
  unfold GoodX
  constructor
  · intro h
    obtain ⟨h1, h2, h3, h4⟩ := chkC_good h
    obtain ⟨h5, _, h6⟩ := chkO_asc l none h2
    rw [twice_any h5 h6, List.any_eq_false] at h3
    exact ⟨h1, h5, h6, fun s hs => by simpa using h3 s hs⟩
  · rintro ⟨h1, h2, h3, h4⟩
    unfold chkC
    have h5 : chkO none l = 0 := chkO_of l none h2 (fun u hu => by cases hu) h3
    have h6 : twiceC l = false := by
      rw [twice_any h2 h3, List.any_eq_false]
      exact fun s hs => by simp [h4 s hs]
    rw [if_neg (by omega), if_neg (by omega), if_neg (by simp [h6])]
theorem good_max {l : Cx} (hc : ∀ s ∈ l, s.length ≠ 0 → chkV s = 0) (hl : (maxC l).length ≤ 4096) : GoodX (maxC l) := by
  refine ⟨hl, maxC_asc l, fun s hs => ?_, fun s hs => ?_⟩
  · obtain ⟨h1, h2⟩ := maxC_mem.1 hs
    unfold topC at h2
    simp only [Bool.and_eq_true, decide_eq_true_eq] at h2
    exact hc s h1 (by omega)
  · obtain ⟨h1, h2⟩ := maxC_mem.1 hs
    unfold topC at h2
    simp only [Bool.and_eq_true, decide_eq_true_eq, Bool.not_eq_true'] at h2
    rw [Bool.eq_false_iff]
    intro hcv
    obtain ⟨x, hx, hr⟩ := coveredC_iff.1 hcv
    have := coveredC_iff.2 ⟨x, (maxC_mem.1 hx).1, hr⟩
    rw [h2.2] at this
    cases this
theorem allC_mem : ∀ {l : Cx} {k : Nat} {x : List Vx}, x ∈ allC l k ↔ ∃ f ∈ l, x ∈ subsV k f := by
  have go : ∀ (l out : Cx) (k : Nat) (x : List Vx), x ∈ l.foldl (fun out f => if f.length < k then out else (subsV k f).foldl putC out) out ↔ x ∈ out ∨ ∃ f ∈ l, x ∈ subsV k f := by
    intro l
    induction l with
    | nil => intro out k x; simp
    | cons f l ih =>
      intro out k x
      rw [List.foldl_cons, ih]
      have e : x ∈ (if f.length < k then out else (subsV k f).foldl putC out) ↔ x ∈ out ∨ x ∈ subsV k f := by
        split
        · rename_i h; rw [subsV_short k f h]; simp
        · rw [foldPut_mem]; exact or_comm
      rw [e]
      constructor
      · rintro ((h | h) | ⟨g, hg, h⟩)
        · exact .inl h
        · exact .inr ⟨f, by simp, h⟩
        · exact .inr ⟨g, by simp [hg], h⟩
      · rintro (h | ⟨g, hg, h⟩)
        · exact .inl (.inl h)
        · rcases List.mem_cons.1 hg with rfl | hg
          · exact .inl (.inr h)
          · exact .inr ⟨g, hg, h⟩
  intro l k x
  unfold allC
  rw [go]; simp
theorem allC_asc (l : Cx) (k : Nat) : AscL (allC l k) := by
  have go : ∀ (l out : Cx), AscL out → AscL (l.foldl (fun out f => if f.length < k then out else (subsV k f).foldl putC out) out) := by
    intro l
    induction l with
    | nil => intro out h; exact h
    | cons f l ih =>
      intro out h
      rw [List.foldl_cons]
      refine ih _ ?_
      split
      · exact h
      · exact foldPut_asc h
  exact go l [] (by simp [AscL])
end Go.Proofs.YtgppfikidagfpaaGreatDoor
namespace Go.Proofs.YtgppfikidagfpaaGreatDoor
open Go.RowKit
set_option linter.unusedSimpArgs false

set_option maxHeartbeats 2000000
set_option maxRecDepth 100000
section
variable {P : Program} {ops : Array Oper} {hp : List HObj} {fr : List Dat} {dst : Option Tmp} {ty : TypeId} {ps : String} {af : Array Edge} {g : Option (Nat × Bool)}
theorem SY.minI {x y : Operand} {m n : Int} {ats : Array TypeId} (hx : OpD fr x (dI m)) (hy : OpD fr y (dI n)) : SY P ops hp { dst := dst, op := .call { callee := .builtin .min, args := #[x, y], argTypes := ats }, type := ty, pos := ps, after := af, guard := g } fr (dI (if n < m then n else m)) :=
  SY.val fun {I w a} ho => ⟨.int .i64 (if n < m then n else m), by
    have h1 : a.eval x = .int .i64 m := hx.get (by simp [Op.operands, Call.operands]) ho
    have h2 : a.eval y = .int .i64 n := hy.get (by simp [Op.operands, Call.operands]) ho
    unfold execOp
    simp [resolve, invoke, builtin, h1, h2, Builtin.min_, Builtin.min2], rfl⟩
end
end Go.Proofs.YtgppfikidagfpaaGreatDoor
namespace Go.Proofs.YtgppfikidagfpaaGreatDoor
theorem GoodX.asc {l : Cx} (h : GoodX l) : ∀ s ∈ l, Asc s := fun s hs => (chkV_zero.1 (h.2.2.1 s hs)).2.2.2
theorem around_eq {l : Cx} {s : List Vx} (h : ∀ f ∈ l, Asc f) (hs : Asc s) : l.filter (faceG s) = aroundC l s := List.filter_congr fun f hf => faceG_inside s f hs (h f hf)
theorem has_around {l : Cx} {s : List Vx} : hasC' l s = decide (0 < (aroundC l s).length) := by
  unfold hasC' aroundC
  rw [Bool.eq_iff_iff, List.any_eq_true, decide_eq_true_eq, List.length_pos_iff_exists_mem]
  constructor
  · rintro ⟨x, hx, h⟩; exact ⟨x, List.mem_filter.2 ⟨hx, h⟩⟩
  · rintro ⟨x, h⟩; exact ⟨x, (List.mem_filter.1 h).1, (List.mem_filter.1 h).2⟩
end Go.Proofs.YtgppfikidagfpaaGreatDoor
namespace Go.Proofs.YtgppfikidagfpaaGreatDoor
abbrev CntM := List (List Vx × Int)
def fcsC (l : Cx) (d : Nat) : Cx := (l.map (subsV d)).flatten
theorem fcsC_mem {l : Cx} {d : Nat} {f : List Vx} : f ∈ fcsC l d ↔ f ∈ allC l d := by
  unfold fcsC
  rw [List.mem_flatten, allC_mem]
  constructor
  · rintro ⟨x, hx, hf⟩
    obtain ⟨s, hs, rfl⟩ := List.mem_map.1 hx
    exact ⟨s, hs, hf⟩
  · rintro ⟨s, hs, hf⟩
    exact ⟨_, List.mem_map_of_mem hs, hf⟩
end Go.Proofs.YtgppfikidagfpaaGreatDoor
namespace Go.Proofs.YtgppfikidagfpaaGreatDoor
theorem cmp_color {a b : Vx} (h : a.1 < b.1) : cmpV a b < 0 := by
  unfold cmpV
  rw [if_pos h]; decide
def AscC (s : List Vx) : Prop := s.Pairwise fun a b => a.1 < b.1
theorem ascC_asc {s : List Vx} (h : AscC s) : Asc s := List.Pairwise.imp (fun h => cmp_color h) h
theorem asc_color {a b : Vx} (h : cmpV a b < 0) : a.1 ≤ b.1 := by
  unfold cmpV at h
  split at h
  · omega
  · split at h
    · omega
    · omega
theorem ascC_of : ∀ {s : List Vx}, Asc s → diffV s = true → AscC s
  | [], _, _ => List.Pairwise.nil
  | [a], _, _ => List.pairwise_singleton _ _
  | a :: b :: s, h, hd => by
    have h0 := List.pairwise_cons.1 h
    have h1 := asc_color (h0.1 b (by simp))
    have hab : a.1 ≠ b.1 ∧ diffV (b :: s) = true := by
      unfold diffV at hd
      simpa using hd
    have hr : AscC (b :: s) := ascC_of h0.2 hab.2
    refine List.pairwise_cons.2 ⟨fun x hx => ?_, hr⟩
    rcases List.mem_cons.1 hx with rfl | hx
    · have := hab.1; omega
    · have h2 := (List.pairwise_cons.1 hr).1 x hx
      have := hab.1; omega
theorem place_color (s : List Vx) (bl : List Nat) : (placeB s bl).map (·.1) = s.map (·.1) := by
  unfold placeB
  rw [List.map_map]
  have e : ((fun x : Vx => x.1) ∘ fun p : Vx × Nat => (p.1.1, ((snapB bl p.2 0 : Nat) : Int))) = (fun v : Vx => v.1) ∘ Prod.fst := rfl
  rw [e, ← List.map_map, List.zipIdx_map_fst]
theorem place_asc {s : List Vx} (h : AscC s) (bl : List Nat) : Asc (placeB s bl) := by
  refine ascC_asc ?_
  have h1 : ((placeB s bl).map (·.1)).Pairwise (· < ·) := by
    rw [place_color]
    exact List.pairwise_map.2 h
  exact List.pairwise_map.1 h1
theorem place_chk {s : List Vx} (hs : chkV s = 0) (hd : diffV s = true) {bl : List Nat} (hb : ∀ i, i < s.length → snapB bl i 0 ≤ 1048576) : chkV (placeB s bl) = 0 := by
  obtain ⟨h1, h2, h3, h4⟩ := chkV_zero.1 hs
  refine chkV_zero.2 ⟨by rw [placeB_len]; exact h1, by rw [placeB_len]; exact h2, fun v hv => ?_, place_asc (ascC_of h4 hd) bl⟩
  unfold placeB at hv
  obtain ⟨p, hp, rfl⟩ := List.mem_map.1 hv
  obtain ⟨q, i⟩ := p
  have hi := List.mem_zipIdx hp
  have hq : q ∈ s := by
    have := hi.2.2
    rw [this]
    exact List.getElem_mem _
  have hr := h3 q hq
  have hl := hb i (by omega)
  unfold rngV at hr ⊢
  simp only [Bool.and_eq_true, decide_eq_true_eq] at hr ⊢
  exact ⟨⟨hr.1.1, by omega⟩, by omega⟩
end Go.Proofs.YtgppfikidagfpaaGreatDoor
namespace Go.Proofs.YtgppfikidagfpaaGreatDoor
def facB (s : List Vx) : Cx := (ordP (2 ^ s.length - 1)).map (placeB s)
def carB (s : List Vx) (v : Vx) : List Vx := atB s v.2.toNat
abbrev Sub := Cx × List Vx × Cx
def subP (s : List Vx) : Sub × Int :=
  if chkV s ≠ 0 then (([], [], []), chkV s) else if diffV s = false then (([], [], []), 3) else if 5 < s.length then (([], [], []), 5)
  else ((maxC (facB s), allV [] (facB s).flatten, (allV [] (facB s).flatten).map (carB s)), 0)
theorem facB_len {s : List Vx} {t : List Vx} (h : t ∈ facB s) : t.length = s.length := by
  unfold facB at h
  obtain ⟨bl, _, rfl⟩ := List.mem_map.1 h
  exact placeB_len s bl
end Go.Proofs.YtgppfikidagfpaaGreatDoor
