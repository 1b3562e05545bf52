/-
  Part 18 of the texts that the claims of this seat lean on: walks of the program's functions by contracts over symbolic frames, and plain laws of what they compute. No condition.
-/
import Derived.Test.YtjbepoofigokjaaGreatVt6
import Derived.Test.YtjbepoofigokjaaGreatVt11
import Derived.Test.YtjbepoofigokjaaGreatVt14
import Derived.Test.YtjbepoofigokjaaGreatVt17
set_option linter.unusedVariables false
set_option linter.unusedSimpArgs false
set_option linter.unusedSectionVars false
namespace Go.Proofs.YtjbepoofigokjaaGreat
open Go.RowKit
set_option maxRecDepth 100000
theorem laidK : laidOutB Tryz.prog = true := by kernel_rfl
def is64 (n : Int) : Prop := -9223372036854775808 ≤ n ∧ n ≤ 9223372036854775807
theorem wf64 {n : Int} (h : is64 n) : (Lit.int .i64 n).wf = true := by
  obtain ⟨h1, h2⟩ := h
  show (decide (IntKind.i64.min ≤ n) && decide (n ≤ IntKind.i64.max)) = true
  have e1 : IntKind.i64.min = -9223372036854775808 := by decide
  have e2 : IntKind.i64.max = 9223372036854775807 := by decide
  rw [e1, e2, decide_eq_true h1, decide_eq_true h2]; rfl
def kvV (x : Int × Int) : Value := .agg #[.int .i64 x.1, .int .i64 x.2]
def okV (x : Int × Int) : Prop := is64 x.1 ∧ is64 x.2
theorem rowV' : 63 < Tryz.prog.types.size := of_decide_eq_true (by kernel_rfl)
theorem cellsV' : Tryz.prog.cellsOf 63 = 2 := by kernel_rfl
theorem cellsI' : Tryz.prog.cellsOf 3 = 1 := by kernel_rfl
theorem lits_V (d : Nat) {x : Int × Int} (h : okV x) : Tryz.prog.keyLits (d + 2) 63 [.int .i64 x.1, .int .i64 x.2] = some [.int .i64 x.1, .int .i64 x.2] := by
  obtain ⟨h1, h2⟩ := h
  unfold Program.keyLits
  simp only [Tryz.underlying63, cellsV']
  simp [cellsI', Program.keyLits, Tryz.underlying3, wf64 h1, wf64 h2]
theorem keyT_V : KeyT Tryz.prog 63 kvV okV where
  law := Go.Maps.Keyed.of_law (deep_law_laid laidK (m := 2) (by omega) rowV' (by kernel_rfl) (by rw [Tryz.underlying63]))
  lit := fun x h => by
    refine ⟨.string (keyBytes [.int .i64 x.1, .int .i64 x.2]), ?_⟩
    unfold keyOf
    simp only [Tryz.underlying63]
    have hk : Tryz.prog.keyType 63 = true := by kernel_rfl
    have hf : (kvV x).formed Tryz.prog 63 = true := by simp [kvV, Value.formed, Tryz.underlying63, cellsV']
    obtain ⟨d, hd⟩ : ∃ d, Tryz.prog.types.size = d + 1 := ⟨Tryz.prog.types.size - 1, by have := rowV'; omega⟩
    rw [hk, hf, hd]
    have := lits_V d h
    simp only [Bool.and_self, if_true]
    rw [show (kvV x).cells.toList = [.int .i64 x.1, .int .i64 x.2] from rfl, this]
    rfl
  inj := fun x y _ _ h => by
    unfold kvV at h
    simp at h
    exact Prod.ext h.1 h.2
def padK (s : List Vx) : List Vx := s ++ List.replicate (8 - s.length) (-1, 0)
def kvK (s : List Vx) : Value := .agg (flatV (padK s)).toArray
def okK (s : List Vx) : Prop := s.length ≤ 8 ∧ ∀ v ∈ s, okV v ∧ 0 ≤ v.1
theorem rowK' : 146 < Tryz.prog.types.size := of_decide_eq_true (by kernel_rfl)
theorem cellsK' : Tryz.prog.cellsOf 146 = 16 := by kernel_rfl
theorem padK_len {s : List Vx} (h : s.length ≤ 8) : (padK s).length = 8 := by unfold padK; simp; omega
theorem padK_ok {s : List Vx} (h : okK s) : ∀ v ∈ padK s, okV v := fun v hv => by
  unfold padK at hv
  rcases List.mem_append.1 hv with hv | hv
  · exact (h.2 v hv).1
  · rw [(List.mem_replicate.1 hv).2]; exact ⟨by unfold is64; omega, by unfold is64; omega⟩
theorem mapM_all {α β : Type} {f : α → Option β} {g : α → β} : ∀ (L : List α), (∀ i ∈ L, f i = some (g i)) → L.mapM f = some (L.map g)
  | [], _ => rfl
  | a :: L, h => by
    rw [List.mapM_cons, h a (by simp), mapM_all L fun i hi => h i (by simp [hi])]
    rfl
theorem flatV_at : ∀ (l : List Vx) (i : Nat) (h : i < l.length), ((flatV l).drop (i * 2)).take 2 = [.int .i64 l[i].1, .int .i64 l[i].2]
  | [], i, h => by simp at h
  | x :: l, 0, _ => by simp [flatV_cons]
  | x :: l, i + 1, h => by
    rw [flatV_cons, show (i + 1) * 2 = i * 2 + 2 by omega]
    simpa using flatV_at l i (by simpa using h)
theorem lits_K (d : Nat) {s : List Vx} (h : okK s) : ∃ l, Tryz.prog.keyLits (d + 3) 146 (flatV (padK s)) = some l := by
  have hl : (flatV (padK s)).length = 16 := by rw [flatV_len, padK_len h.1]
  unfold Program.keyLits
  simp only [Tryz.underlying146, cellsK', hl]
  simp only [if_true, cellsV']
  rw [mapM_all (g := fun i => [Lit.int .i64 ((padK s).getD i (0, 0)).1, Lit.int .i64 ((padK s).getD i (0, 0)).2]) _ fun i hi => ?_]
  · exact ⟨_, rfl⟩
  · have hi' : i < (padK s).length := by rw [padK_len h.1]; exact List.mem_range.1 hi
    rw [flatV_at _ i hi', lits_V d (padK_ok h _ (List.getElem_mem hi'))]
    simp [List.getD, hi']
theorem flatV_inj : ∀ {a b : List Vx}, flatV a = flatV b → a = b
  | [], [], _ => rfl
  | [], y :: b, h => by simp [flatV_cons, flatV_nil] at h
  | x :: a, [], h => by simp [flatV_cons, flatV_nil] at h
  | x :: a, y :: b, h => by
    rw [flatV_cons, flatV_cons] at h
    simp at h
    rw [Prod.ext h.1 h.2.1, flatV_inj h.2.2]
theorem padK_inj : ∀ {a b : List Vx}, (∀ v ∈ a, 0 ≤ v.1) → (∀ v ∈ b, 0 ≤ v.1) → padK a = padK b → a = b := by
  have go : ∀ {a b : List Vx} (i j : Nat), (∀ v ∈ a, 0 ≤ v.1) → (∀ v ∈ b, 0 ≤ v.1) → a ++ List.replicate i ((-1, 0) : Vx) = b ++ List.replicate j (-1, 0) → a = b := by
    intro a
    induction a with
    | nil =>
      intro b i j _ hb h
      cases b with
      | nil => rfl
      | cons y b =>
        cases i with
        | zero => simp at h
        | succ i =>
          rw [List.replicate_succ] at h
          simp at h
          have := hb y (by simp)
          rw [← h.1] at this
          simp at this
    | cons x a ih =>
      intro b i j ha hb h
      cases b with
      | nil =>
        cases j with
        | zero => simp at h
        | succ j =>
          rw [List.replicate_succ] at h
          simp at h
          have := ha x (by simp)
          rw [h.1] at this
          simp at this
      | cons y b =>
        simp only [List.cons_append, List.cons.injEq] at h
        rw [h.1, ih i j (fun v hv => ha v (by simp [hv])) (fun v hv => hb v (by simp [hv])) h.2]
  intro a b ha hb h
  exact go _ _ ha hb h
theorem keyT_K : KeyT Tryz.prog 146 kvK okK where
  law := Go.Maps.Keyed.of_law (deep_law_laid laidK (m := 3) (by omega) rowK' (by kernel_rfl) (by rw [Tryz.underlying146]))
  lit := fun s h => by
    obtain ⟨d, hd⟩ : ∃ d, Tryz.prog.types.size = d + 2 := ⟨Tryz.prog.types.size - 2, by have := rowK'; omega⟩
    obtain ⟨l, hl⟩ := lits_K d h
    refine ⟨.string (keyBytes l), ?_⟩
    unfold keyOf
    simp only [Tryz.underlying146]
    have hk : Tryz.prog.keyType 146 = true := by kernel_rfl
    have hf : (kvK s).formed Tryz.prog 146 = true := by
      simp [kvK, Value.formed, Tryz.underlying146, cellsK', flatV_len, padK_len h.1]
    rw [hk, hf, hd]
    simp only [Bool.and_self, if_true]
    rw [show (kvK s).cells.toList = flatV (padK s) from rfl, hl]
    rfl
  inj := fun x y hx hy h => by
    unfold kvK at h
    injection h with h
    exact padK_inj (fun v hv => (hx.2 v hv).2) (fun v hv => (hy.2 v hv).2) (flatV_inj (List.toArray_inj h))
end Go.Proofs.YtjbepoofigokjaaGreat
namespace Go.Proofs.YtjbepoofigokjaaGreat
open Go.RowKit
set_option linter.unusedSimpArgs false

set_option maxHeartbeats 2000000
set_option maxRecDepth 100000
theorem mapT_inc : MapT Tryz.prog 101 63 66 (.slice none 0 0) := ⟨Tryz.underlying101, fun w => by kernel_rfl⟩
abbrev IncM := List (Vx × Value × List Int)
abbrev hI (b : Nat) (M : IncM) : HObj := hM b kvV (fun p : Value × List Int => p.1) M
def rowsI (M : IncM) : List HObj := M.map fun p => hRow p.2.1 3 RI p.2.2
def contI (M : IncM) : List (Vx × List Int) := M.map fun p => (p.1, p.2.2)
theorem contI_keys (M : IncM) : (contI M).map (·.1) = M.map (·.1) := by unfold contI; rw [List.map_map]; rfl
theorem perm_set {α : Type} (a : α) : ∀ (l : List α) (q : Nat), q < l.length → (a :: l.eraseIdx q).Perm (l.set q a)
  | [], q, h => by simp at h
  | x :: l, 0, _ => by simp
  | x :: l, q + 1, h => by
    simp only [List.eraseIdx_cons_succ, List.set_cons_succ]
    exact (List.Perm.swap _ _ _).trans (List.Perm.cons _ (perm_set a l q (by simpa using h)))
theorem perm_at {α : Type} (l : List α) (q : Nat) (h : q < l.length) : (l[q] :: l.eraseIdx q).Perm l := by
  have := perm_set l[q] l q h
  rwa [List.set_getElem_self] at this
theorem map_set_key {α β : Type} (M : List (α × β)) (q : Nat) (h : q < M.length) (u : β) : (M.set q (M[q].1, u)).map (·.1) = M.map (·.1) := by
  rw [List.map_set]
  have : (M.map (·.1))[q]'(by simpa using h) = M[q].1 := by simp
  rw [← this, List.set_getElem_self]
theorem contI_set {M : IncM} (hn : (M.map (·.1)).Nodup) {q : Nat} (h : q < M.length) (v' : Value) (i : Int) : contI (M.set q (M[q].1, (v', M[q].2.2 ++ [i]))) = addI (contI M) M[q].1 i := by
  have hl : q < (contI M).length := by simpa [contI] using h
  have e1 : (contI M)[q] = (M[q].1, M[q].2.2) := by simp [contI]
  have hn' : ((contI M).map (·.1)).Nodup := by rw [contI_keys]; exact hn
  have h2 := lookM_some hn' hl
  have h3 := putM_set hn' (v := M[q].2.2 ++ [i]) hl
  rw [e1] at h2 h3
  unfold addI
  rw [h2]
  show _ = putM (contI M) M[q].1 (M[q].2.2 ++ [i])
  rw [h3]
  unfold contI
  rw [List.map_set]
theorem contI_new {M : IncM} {v : Vx} (hne : ∀ p ∈ M, p.1 ≠ v) (v' : Value) (i : Int) : contI (M ++ [(v, (v', [i]))]) = addI (contI M) v i := by
  have hne' : ∀ p ∈ contI M, p.1 ≠ v := fun p hp => by
    obtain ⟨q, hq, rfl⟩ := List.mem_map.1 hp
    exact hne q hq
  unfold addI
  rw [lookM_none hne', putM_new hne']
  simp [contI]
theorem rowsI_set (M : IncM) (q : Nat) (h : q < M.length) (p : Vx × Value × List Int) : (hRow p.2.1 3 RI p.2.2 :: (rowsI M).eraseIdx q).Perm (rowsI (M.set q p)) := by
  have := perm_set (hRow p.2.1 3 RI p.2.2) (rowsI M) q (by simpa [rowsI] using h)
  have e : rowsI (M.set q p) = (rowsI M).set q (hRow p.2.1 3 RI p.2.2) := by unfold rowsI; rw [List.map_set]
  rw [e]; exact this
theorem rowsI_snoc (M : IncM) (p : Vx × Value × List Int) : (hRow p.2.1 3 RI p.2.2 :: rowsI M).Perm (rowsI (M ++ [p])) := by
  unfold rowsI
  rw [List.map_append]
  exact (List.perm_append_singleton _ _).symm
theorem incidence_p (l : Cx) (hl : l.length ≤ 1000000) (hs : ∀ s ∈ l, ∀ v ∈ s, okV v) (h8 : ∀ s ∈ l, s.length ≤ 1000) : Fn Tryz.prog 67 [dS Simps l] (dS (MapR kvV Ints) (incC l)) := by
  (refine Fn.intro1 Tryz.func67 rfl rfl ?_; simp only [Tryz.ntmps67, List.length_cons, List.length_nil, Nat.reduceAdd, Nat.reduceSub, List.replicate_succ, List.replicate_zero, List.cons_append, List.nil_append])
  (repeat' (first | (apply WL.opN; exact yF; dsimp only [setD, z0, z1]) | refine WL.nil ?_ | refine WC.seqK fun Kx hK => ?_ | (refine hK _ _ ?_; clear hK) | refine WC.region ?_ |  (refine WL.makeMap kvV (fun p : Value × List Int => p.1) fun b => ?_; dsimp only [setD, z0, z1]) | (apply WL.opN; (focus ((first | exact yLen | fail); all_goals infer_instance)); dsimp only [setD, z0, z1]) | refine WC.block ?_))
  (refine WC.loopU (X := Nat × IncM) (fun x => [(11, dI (x.1 : Int)), (4, dA), (5, dA), (7, dA), (12, dA), (13, dA), (14, dA), (15, dA), (16, dA), (17, dA), (18, dA), (19, dA), (20, dA), (21, dA), (22, dA), (23, dA), (24, dA), (25, dA), (26, dA), (27, dA), (28, dA), (29, dA), (30, dA), (31, dA)]) (fun x => hI b x.2 :: rowsI x.2) (fun x => l.length - x.1) (fun x => x.1 ≤ l.length ∧ (x.2.map (·.1)).Nodup ∧ (∀ p ∈ x.2, okV p.1) ∧ (∀ p ∈ x.2, p.2.2.length ≤ 2000 * x.1) ∧ contI x.2 = incC (l.take x.1)) (0, []) ?start ?frame0 ?objs0 ?round)
  case start => exact ⟨Nat.zero_le _, by simp, by simp, by simp, rfl⟩
  case frame0 => ((try dsimp only [upds, z0, z1]); repeat (first | exact LeF.nil | refine LeF.co (k := ?_)))
  case objs0 => rfl
  case round =>
    rintro ⟨i, M⟩ ⟨h1, h2, h3, h4, h5⟩
    simp only at h1 h2 h3 h4 h5
    dsimp only [upds, z0, z1]
    ((repeat' (first | (apply WL.opN; exact yF; dsimp only [setD, z0, z1]) | refine WL.nil ?_ | refine WC.seqK fun Kx hK => ?_ | (refine hK _ _ ?_; clear hK) | (refine Kont.skip ?_; clear hK) | refine WC.region ?_ | (apply WL.opN; (focus ((first | exact yLss | exact yLen | exact yIndexaddr | fail); all_goals infer_instance)); dsimp only [setD, z0, z1]) | (apply WC.condD; (exact oD); all_goals (intro h; try exact xD)) | refine WC.skip ?_ | refine WC.ret ?_ | refine WC.exit ?_ | refine WC.block ?_)); all_goals (first | refine WC.id ?_ | ((repeat clear hK); (repeat clear Kx))))
    · have hm := List.getElem_mem (show i < l.length by omega)
      have h8m := h8 _ hm
      (refine WC.loopU (X := Nat × IncM) (fun x => [(18, dI (x.1 : Int)), (7, dA), (19, dA), (20, dA), (21, dA), (22, dA), (23, dA), (24, dA), (25, dA), (26, dA), (27, dA), (28, dA), (29, dA), (30, dA)]) (fun x => hI b x.2 :: rowsI x.2) (fun x => l[i].length - x.1) (fun x => x.1 ≤ l[i].length ∧ (x.2.map (·.1)).Nodup ∧ (∀ p ∈ x.2, okV p.1) ∧ (∀ p ∈ x.2, p.2.2.length ≤ 2000 * i + x.1) ∧ contI x.2 = incS (incC (l.take i)) (l[i].take x.1) (i : Int)) (0, M) ?start ?frame0 ?objs0 ?round)
      case start => exact ⟨Nat.zero_le _, h2, h3, h4, h5⟩
      case frame0 => ((try dsimp only [upds, z0, z1]); repeat (first | exact LeF.nil | refine LeF.co (k := ?_)))
      case objs0 => rfl
      case round =>
        rintro ⟨j, M⟩ ⟨g1, g2, g3, g4, g5⟩
        simp only at g1 g2 g3 g4 g5
        dsimp only [upds, z0, z1]
        ((repeat' (first | (apply WL.opN; exact yF; dsimp only [setD, z0, z1]) | refine WL.nil ?_ | refine WC.seqK fun Kx hK => ?_ | (refine hK _ _ ?_; clear hK) | (refine Kont.skip ?_; clear hK) | refine WC.region ?_ | (apply WL.alloc; (first | exact tzV | exact tzC); (first | exact shape_X rfl | exact shape_XV | exact shape_C0 rfl); (intro _; dsimp only [setD, z0, z1])) | (apply WL.storeF; (exact tD); rfl; (exact oD); (exact hD); dsimp only [setD, z0, z1]) | (apply WL.opN; (focus ((first | exact yLss | exact yAdd | exact yIndexaddr | exact yBuildslice | fail); all_goals infer_instance)); dsimp only [setD, z0, z1]) | (apply WC.condD; (exact oD); all_goals (intro h; try exact xD)) | refine WC.skip ?_ | refine WC.exit ?_ | refine WC.block ?_ | refine ThenD.n ?_)); all_goals (first | refine WL.id ?_ | ((repeat clear hK); (repeat clear Kx))))
        · have hjl : j < l[i].length := by omega
          refine WL.entM (zv := ((.slice none 0 0, []) : Value × List Int)) rfl mapT_inc keyT_V (OpD.t rfl) (OpD.t rfl) ⟨fun _ _ _ h => h⟩ (hs _ hm _ (List.getElem_mem hjl)) g3 (fun q hq hqv => ?_) (fun hne => ?_)
          · have hq' : q < (rowsI M).length := by unfold rowsI; simpa using hq
            have hrow : (rowsI M)[q] = hRow M[q].2.1 3 RI M[q].2.2 := by simp [rowsI]
            have hlen := g4 _ (List.getElem_mem hq)
            refine WL.perm (((List.Perm.cons _ (perm_at _ q hq').symm)).trans (List.Perm.swap _ _ _)) ?_
            rw [hrow]
            dsimp only [setD, z0, z1]
            (repeat' (first | ((first | apply WL.appK | apply WL.app1); (exact eD); exact OpD.t rfl; (exact oD); decide; (exact lD); (intro _; dsimp only [setD, z0, z1]); all_goals (try infer_instance)) | (apply WL.opN; (focus ((first | exact yExtract | fail); all_goals infer_instance)); dsimp only [setD, z0, z1])))
            rename_i v'
            refine WL.perm (List.Perm.swap _ _ _) ?_
            refine WL.entS (u := (v', M[q].2.2 ++ [(i : Int)])) (OpD.t rfl) (OpD.t rfl) (OpD.t rfl) ⟨fun _ _ _ h => h⟩ hq ?_
            refine WL.perm (List.Perm.cons _ (rowsI_set M q hq (M[q].1, (v', M[q].2.2 ++ [(i : Int)])))) ?_
            dsimp only [setD]
            ((repeat' (first | (apply WL.opN; exact yF; dsimp only [setD, z0, z1]) | refine WL.nil ?_ | (refine hK _ _ ?_; clear hK) | refine WC.region ?_ | (apply WL.opN; (focus ((first | exact yAdd | fail); all_goals infer_instance)); dsimp only [setD, z0, z1]) | refine ThenD.n ?_)); all_goals (first | ((repeat clear hK); (repeat clear Kx))))
            (refine ⟨(j + 1, M.set q (M[q].1, (v', M[q].2.2 ++ [(i : Int)]))), ?_, by first | omega | (simp only; omega), rfl, ?_⟩; rotate_left; ((try dsimp only [upds, z0, z1]); repeat (first | exact LeF.nil | refine LeF.co (k := ?_))); (try dsimp only))
            refine ⟨by omega, ?_, ?_, ?_, ?_⟩
            · rw [map_set_key]; exact g2
            · intro p hp
              rcases List.mem_or_eq_of_mem_set hp with hp | rfl
              · exact g3 p hp
              · exact (show okV M[q].1 from g3 _ (List.getElem_mem hq))
            · intro p hp
              rcases List.mem_or_eq_of_mem_set hp with hp | rfl
              · have := g4 p hp; omega
              · simp only [List.length_append, List.length_cons, List.length_nil]; omega
            · rw [contI_set g2 hq, g5, hqv, ← incS_snoc]
          · refine WL.nilRow 3 RI ?_
            dsimp only [setD, z0, z1]
            (repeat' (first | ((first | apply WL.appK | apply WL.app1); (exact eD); exact OpD.t rfl; (exact oD); decide; (exact lD); (intro _; dsimp only [setD, z0, z1]); all_goals (try infer_instance)) | (apply WL.opN; (focus ((first | exact yExtract | fail); all_goals infer_instance)); dsimp only [setD, z0, z1])))
            rename_i v'
            refine WL.perm (List.Perm.swap _ _ _) ?_
            have hlen : M.length < (M ++ [((l[i][j], ((.slice none 0 0, []) : Value × List Int)))]).length := by simp
            refine WL.entS (j := M.length) (u := (v', [(i : Int)])) (OpD.t rfl) (OpD.t rfl) (OpD.t rfl) ⟨fun _ _ _ h => h⟩ hlen ?_
            have eset : (M ++ [((l[i][j], ((.slice none 0 0, []) : Value × List Int)))]).set M.length ((M ++ [((l[i][j], ((.slice none 0 0, []) : Value × List Int)))])[M.length].1, (v', [(i : Int)])) = M ++ [(l[i][j], (v', [(i : Int)]))] := by simp
            rw [eset]
            refine WL.perm (List.Perm.cons _ (rowsI_snoc M (l[i][j], (v', [(i : Int)])))) ?_
            dsimp only [setD]
            ((repeat' (first | (apply WL.opN; exact yF; dsimp only [setD, z0, z1]) | refine WL.nil ?_ | (refine hK _ _ ?_; clear hK) | refine WC.region ?_ | (apply WL.opN; (focus ((first | exact yAdd | fail); all_goals infer_instance)); dsimp only [setD, z0, z1]) | refine ThenD.n ?_)); all_goals (first | ((repeat clear hK); (repeat clear Kx))))
            (refine ⟨(j + 1, M ++ [(l[i][j], (v', [(i : Int)]))]), ?_, by first | omega | (simp only; omega), rfl, ?_⟩; rotate_left; ((try dsimp only [upds, z0, z1]); repeat (first | exact LeF.nil | refine LeF.co (k := ?_))); (try dsimp only))
            refine ⟨by omega, ?_, ?_, ?_, ?_⟩
            · rw [List.map_append, List.nodup_append]
              refine ⟨g2, by simp, fun a ha c hc => ?_⟩
              have : c = l[i][j] := by simpa using hc
              subst this
              obtain ⟨p, hp, rfl⟩ := List.mem_map.1 ha
              exact hne p hp
            · intro p hp
              rcases List.mem_append.1 hp with hp | hp
              · exact g3 p hp
              · rw [List.mem_singleton.1 hp]; exact hs _ hm _ (List.getElem_mem hjl)
            · intro p hp
              rcases List.mem_append.1 hp with hp | hp
              · have := g4 p hp; omega
              · rw [List.mem_singleton.1 hp]; simp only [List.length_cons, List.length_nil]; omega
            · rw [contI_new hne, g5, ← incS_snoc]
        · (refine ⟨(i + 1, M), ?_, by first | omega | (simp only; omega), rfl, ?_⟩; rotate_left; ((try dsimp only [upds, z0, z1]); repeat (first | exact LeF.nil | refine LeF.co (k := ?_))); (try dsimp only))
          refine ⟨by omega, g2, g3, fun p hp => by have := g4 p hp; omega, ?_⟩
          rw [List.take_of_length_le (show l[i].length ≤ j by omega)] at g5
          show contI M = _
          rw [g5, ← incC_snoc (by omega)]
    · rw [List.take_of_length_le (by omega)] at h5
      rw [← h5]
      exact ⟨trivial, _, rfl, FinD.map (.head _) fun p hp => .tail _ (List.mem_map_of_mem (f := fun p : Vx × Value × List Int => hRow p.2.1 3 RI p.2.2) hp)⟩
end Go.Proofs.YtjbepoofigokjaaGreat
namespace Go.Proofs.YtjbepoofigokjaaGreat
open Go.RowKit
section
variable {P : Program} {ops : Array Oper} {hp : List HObj} {o : Oper} {fr : List Dat} {d : Dat} {Q : Post} {rest : List Oper}
variable {dst : Option Tmp} {ty : TypeId} {ps : String} {af : Array Edge} {g : Option (Nat × Bool)} {e : TypeId} {b : Nat} {T1 T2 : TypeId} {v v' : Value} {α : Type} {R : Rel α} {_gR : Good R} {xs : List α}
abbrev hC1 (b : Nat) (T : TypeId) (v : Value) : HObj := hCell b T 1 true (dX (.agg #[v]))
theorem cellC1 {I : Nat → Prop} {w : World} (h : (hC1 b T2 v).ok I w) : w.heap[b]? = some (.cells #[v] T2) ∧ v.oneCell' = true := by
  obtain ⟨cs, u, h1, h2, h0, h3, h4, h5⟩ := h
  simp only [if_true] at h4
  cases (h5 : u = _)
  injection h4 with h4
  have hcs : cs = [v] := List.toArray_inj h4.symm
  subst hcs
  exact ⟨h1, h3 v (by simp)⟩
theorem SY.loadC1 {x : Operand} (T' : TyI P T1 1 false) (hx : OpD fr x (dX (.pointer (some ⟨b, 0, none⟩)))) (hm : hC1 b T2 v ∈ hp) : SY P ops hp { dst := dst, op := .load T1 x, type := ty, pos := ps, after := af, guard := g } fr (dX v) :=
  SY.valE fun {P0 B w0 w a} hh ho => by
    have h1 : a.eval x = .pointer (some ⟨b, 0, none⟩) := hx.get (by simp [Op.operands]) ho
    obtain ⟨c1, c2⟩ := cellC1 (hh.ok _ hm)
    have hc : Cells (fun _ => True) w b 0 1 false v := by
      refine ⟨trivial, [v], rfl, by decide, by simp [c2], fun i c hc => ?_, rfl⟩
      have hi : i = 0 := by
        have := (List.getElem?_eq_some_iff.1 hc).1
        simp at this; exact this
      subst hi
      cases hc
      simp [World.cell?, c1]
    refine ⟨v, w, ?_, Ext.refl _, rfl⟩
    unfold execOp
    simp only [h1, Sem.run_bind, run_loadC T' hc, Result.andThen_ok, Sem.run_pure]
theorem WL.storeC1 {t : Nat} {x : Operand} (T' : TyI P T1 1 false) (hp0 : OpD fr (.tmp t) (dX (.pointer (some ⟨b, 0, none⟩)))) (hx : OpD fr x (dX v')) (hm : hRow v' e R xs ∈ hp)
    (h : WL P ops Q rest (setD fr dst (dX undef)) (hC1 b T2 v' :: hp)) : WL P ops Q ({ dst := dst, op := .store T1 (.tmp t) x, type := ty, pos := ps, after := af, guard := none } :: rest) fr (hC1 b T2 v :: hp) := by
  refine WL.of fun P0 B w0 w a hh hf => ?_
  obtain ⟨c1, c2⟩ := cellC1 (hh.ok (hC1 b T2 v) (by simp))
  have h1 : a.eval x = v' := hx.ev hf
  have h2 : a.eval (.tmp t) = .pointer (some ⟨b, 0, none⟩) := hp0.ev hf
  have hone : v'.oneCell' = true := by
    obtain ⟨us, _, ⟨_, hv⟩, _⟩ := hh.ok (hRow v' e R xs) (List.mem_cons_of_mem _ hm)
    rcases hv with ⟨hv, _⟩ | ⟨g, cap, cur, hv, _⟩ <;> (rw [hv]; rfl)
  have hr := run_storeC (u := v') (cs := [v]) (cs' := [v']) T'.size c1 rfl rfl (by simp [hone]) (by rw [cells_one hone])
  have hrun : (execOp a.eval { dst := dst, op := .store T1 (.tmp t) x, type := ty, pos := ps, after := af, guard := none }).run P w = .ok .skip (w.setRow b #[v']) := by
    unfold execOp
    simp only [h1, h2, Sem.run_bind, hr, Result.andThen_ok, Sem.run_pure]
  refine wpList_plain rfl fun K hK => ?_
  unfold Oper.wp
  rw [hrun]
  have hgr : w.grownBy (w.setRow b #[v']) (hC1 b T2 v).blk := grown_setRow
  have hok : (hC1 b T2 v').ok (fun k => Imm P0 B (hC1 b T2 v :: hp) k ∧ k < w.heap.size) (w.setRow b #[v']) :=
    ⟨[v'], .agg #[v'], setRow_heap w b _ _ _ _ c1, rfl, by decide, by simp [hone], rfl, rfl⟩
  exact hK _ _ (h.on (hh.write hgr (.inl rfl) hok) (Fr.put (hf.mono fun _ _ hd => Hp.written (o' := hC1 b T2 v') hgr (.inl rfl) hd) (d := dX undef) rfl))
theorem WL.knowRow {c0 : Prop} (hm : hRow v e R xs ∈ hp) (hc : (∃ a c, v = .slice a xs.length c) → c0) (h : c0 → WL P ops Q rest fr hp) : WL P ops Q rest fr hp := WL.of fun _ _ _ _ _ hh hf => by
  refine (h (hc ?_)).on hh hf
  obtain ⟨us, _, ⟨_, hv⟩, _⟩ := hh.ok (hRow v e R xs) hm
  rcases hv with ⟨hv, h0⟩ | ⟨g, cap, cur, hv, _⟩
  · exact ⟨_, _, by rw [hv, h0]⟩
  · exact ⟨_, _, hv⟩
theorem set_slot {I : Nat → Prop} {w : World} {a : Act} (hf : Fr I w a fr) {s : Tmp} (hs : fr[s]? = some (dX v)) (hd : d.rd I w v) : Fr I w a (fr.set s d) := by
  refine ⟨hf.defers, by rw [hf.size, List.length_set], fun t' d' hd' => ?_⟩
  by_cases htt : s = t'
  · subst htt
    rw [List.getElem?_set] at hd'
    simp only [if_true] at hd'
    split at hd'
    · cases hd'
      have hv : a.tmps.getD s undef = v := hf.rd s _ hs
      rw [hv]; exact hd
    · cases hd'
  · rw [List.getElem?_set_ne htt] at hd'
    exact hf.rd t' d' hd'
theorem WL.keep2 {s t : Tmp} (hs : fr[s]? = some (dX v)) (ht : (fr.set s (dS (Arr R) xs))[t]? = some (dX v)) (h : WL P ops Q rest ((fr.set s (dS (Arr R) xs)).set t (dS (Arr R) xs)) hp) : WL P ops Q rest fr (hRow v e R xs :: hp) := WL.of fun _ _ _ _ _ hh hf =>
  h.on hh.drop (set_slot (keep_slot hf hs (d := dS (Arr R) xs) (Own.keep hh)) ht (Own.keep hh))
end
end Go.Proofs.YtjbepoofigokjaaGreat
namespace Go.Proofs.YtjbepoofigokjaaGreat
theorem mem_shared {a b : List Vx} {p : Bool} {x : Vx} : x ∈ sharedV a b p ↔ x ∈ a ∧ decide (x ∈ b) = p := by unfold sharedV; rw [List.mem_filter]; simp
theorem shared_sub {a b : List Vx} {p : Bool} : (sharedV a b p).Sublist a := List.filter_sublist
theorem asc_shared {a b : List Vx} {p : Bool} (h : Asc a) : Asc (sharedV a b p) := List.Pairwise.sublist shared_sub h
theorem sub_good {a s : List Vx} (ha : chkV a = 0) (hs : s.Sublist a) (hne : s ≠ []) : chkV s = 0 := by
  obtain ⟨h1, h2, h3, h4⟩ := chkV_zero.1 ha
  refine chkV_zero.2 ⟨fun h => hne (List.eq_nil_of_length_eq_zero h), Nat.le_trans hs.length_le h2, fun v hv => h3 v (hs.subset hv), List.Pairwise.sublist hs h4⟩
theorem ne_nil {s : List Vx} (h : 0 < s.length) : s ≠ [] := fun e => by subst e; simp at h
end Go.Proofs.YtjbepoofigokjaaGreat
namespace Go.Proofs.YtjbepoofigokjaaGreat
theorem subsV_mem : ∀ (k : Nat) (s x : List Vx), x ∈ subsV k s ↔ x.Sublist s ∧ x.length = k
  | 0, s, x => by
    have : subsV 0 s = [[]] := by unfold subsV; rfl
    rw [this, List.mem_singleton]
    constructor
    · rintro rfl; exact ⟨List.nil_sublist _, rfl⟩
    · rintro ⟨_, h⟩; exact List.eq_nil_of_length_eq_zero h
  | k + 1, [], x => by
    simp only [subsV, List.not_mem_nil, List.sublist_nil, false_iff]
    rintro ⟨rfl, h⟩; simp at h
  | k + 1, v :: s, x => by
    unfold subsV
    rw [List.mem_append, List.mem_map, subsV_mem (k + 1) s x]
    constructor
    · rintro (⟨y, hy, rfl⟩ | ⟨h1, h2⟩)
      · obtain ⟨h1, h2⟩ := (subsV_mem k s y).1 hy
        exact ⟨h1.cons_cons v, by simp [h2]⟩
      · exact ⟨h1.cons v, h2⟩
    · rintro ⟨h1, h2⟩
      rcases List.sublist_cons_iff.1 h1 with h | ⟨y, rfl, h⟩
      · exact .inr ⟨h, h2⟩
      · exact .inl ⟨y, (subsV_mem k s y).2 ⟨h, by simpa using h2⟩, rfl⟩
theorem subsV_zero (s : List Vx) : (subsV 0 s).length = 1 := by unfold subsV; rfl
theorem subsV_next (k : Nat) (v : Vx) (s : List Vx) : (subsV (k + 1) (v :: s)).length = (subsV k s).length + (subsV (k + 1) s).length := by
  conv => lhs; unfold subsV
  rw [List.length_append, List.length_map]
theorem cmpL_cons (v : Vx) (a b : List Vx) : cmpL (v :: a) (v :: b) = cmpL a b := by
  conv => lhs; unfold cmpL
  rw [if_pos (cmpV_eq.2 rfl)]
theorem subsV_sorted : ∀ (k : Nat) (s : List Vx), Asc s → (subsV k s).Pairwise fun a b => cmpL a b = -1
  | 0, s, _ => by unfold subsV; exact List.pairwise_singleton _ _
  | k + 1, [], _ => by unfold subsV; exact List.Pairwise.nil
  | k + 1, v :: s, h => by
    obtain ⟨h1, h2⟩ := List.pairwise_cons.1 h
    unfold subsV
    rw [List.pairwise_append]
    refine ⟨List.pairwise_map.2 (List.Pairwise.imp (fun {a b} hab => by rw [cmpL_cons]; exact hab) (subsV_sorted k s h2)), subsV_sorted (k + 1) s h2, fun a ha b hb => ?_⟩
    obtain ⟨a', _, rfl⟩ := List.mem_map.1 ha
    obtain ⟨hb1, hb2⟩ := (subsV_mem _ _ _).1 hb
    match b, hb1, hb2 with
    | w :: b', hb1, _ =>
      have hw : w ∈ s := hb1.subset (by simp)
      have hvw := h1 w hw
      have := cmpV_range v w
      unfold cmpL
      rw [if_neg (by omega)]
      omega
theorem face_good {a s : List Vx} {k : Nat} (hs : chkV s = 0) (hk : 0 < k) (h : a ∈ subsV k s) : chkV a = 0 ∧ a.Sublist s ∧ a.length = k := by
  obtain ⟨h1, h2⟩ := (subsV_mem _ _ _).1 h
  exact ⟨sub_good hs h1 (ne_nil (by omega)), h1, h2⟩
theorem facesV_good {s : List Vx} (hs : chkV s = 0) {k : Nat} (h1 : 0 < k) (h2 : k ≤ s.length) : facesV s k = (subsV k s, 0) := by
  unfold facesV
  rw [if_neg (by simp [hs]), if_neg (by omega)]
  simp
end Go.Proofs.YtjbepoofigokjaaGreat
namespace Go.Proofs.YtjbepoofigokjaaGreat
theorem chkO_asc : ∀ (l : Cx) (p : Option (List Vx)), chkO p l = 0 → AscL l ∧ (∀ u, p = some u → ∀ s ∈ l, cmpL u s < 0) ∧ ∀ s ∈ l, chkV s = 0
  | [], p, _ => ⟨by simp [AscL], by simp, by simp⟩
  | s :: l, p, h => by
    unfold chkO at h
    by_cases h1 : chkV s ≠ 0
    · rw [if_pos h1] at h; exact absurd h h1
    rw [if_neg h1] at h
    have key : chkO (some s) l = 0 ∧ ∀ u, p = some u → cmpL u s < 0 := by
      cases p with
      | none => exact ⟨by simpa using h, fun u hu => by cases hu⟩
      | some u =>
        by_cases h2 : 0 ≤ cmpL u s
        · simp only [h2, decide_true, if_true] at h
          exact absurd h (by decide)
        · simp only [h2, decide_false, Bool.false_eq_true, if_false] at h
          exact ⟨h, fun u' hu => by cases hu; omega⟩
    obtain ⟨h3, h4, h5⟩ := chkO_asc l (some s) key.1
    have h6 := h4 s rfl
    refine ⟨List.pairwise_cons.2 ⟨h6, h3⟩, fun u hu x hx => ?_, fun x hx => ?_⟩
    · have h7 := key.2 u hu
      rcases List.mem_cons.1 hx with rfl | hx
      · exact h7
      · exact cmpL_lt_trans h7 (h6 x hx)
    · rcases List.mem_cons.1 hx with rfl | hx
      · omega
      · exact h5 x hx
theorem chkO_of : ∀ (l : Cx) (p : Option (List Vx)), AscL l → (∀ u, p = some u → ∀ s ∈ l, cmpL u s < 0) → (∀ s ∈ l, chkV s = 0) → chkO p l = 0
  | [], p, _, _, _ => rfl
  | s :: l, p, ha, hp, hc => by
    unfold chkO
    rw [if_neg (by have := hc s (by simp); omega), if_neg ?_]
    · unfold AscL at ha
      rw [List.pairwise_cons] at ha
      exact chkO_of l (some s) ha.2 (fun u hu x hx => by cases hu; exact ha.1 x hx) fun x hx => hc x (by simp [hx])
    · cases p with
      | none => simp
      | some u =>
        have := hp u rfl s (by simp)
        simp only [decide_eq_true_eq]; omega
theorem inside_lt {a b : List Vx} (ha : Asc a) (hb : Asc b) (h : insideV a b = true) (hne : a ≠ b) : a.length < b.length := by
  have hsub : ∀ x ∈ a, x ∈ b := fun x hx => by
    have := List.all_eq_true.1 h x hx
    simpa using this
  have e : sharedV b a true = a := asc_ext (asc_shared hb) ha fun x => by
    rw [mem_shared]
    constructor
    · intro ⟨_, h⟩; simpa using h
    · intro hx; exact ⟨hsub x hx, by simpa using hx⟩
  have hs : a.Sublist b := by rw [← e]; exact shared_sub
  rcases Nat.lt_or_ge a.length b.length with h1 | h1
  · exact h1
  · exact absurd (hs.eq_of_length_le h1) hne
theorem inside_le {a b : List Vx} (ha : Asc a) (hb : Asc b) (h : insideV a b = true) : a.length ≤ b.length := by
  by_cases e : a = b
  · rw [e]; exact Nat.le_refl _
  · exact Nat.le_of_lt (inside_lt ha hb h e)
theorem twice_any {l : Cx} (ha : AscL l) (hc : ∀ s ∈ l, chkV s = 0) : twiceC l = l.any fun s => coveredC l s := by
  have asc : ∀ s ∈ l, Asc s := fun s hs => (chkV_zero.1 (hc s hs)).2.2.2
  rw [Bool.eq_iff_iff]
  unfold twiceC
  simp only [List.any_eq_true, List.mem_range, Bool.and_eq_true, decide_eq_true_eq, coveredC_iff]
  constructor
  · rintro ⟨i, hi, k, hk, hne, h⟩
    rw [getD_at hi, getD_at hk] at h
    have hmi := List.getElem_mem hi
    have hmk := List.getElem_mem hk
    refine ⟨l[i], hmi, l[k], hmk, inside_lt (asc _ hmi) (asc _ hmk) h fun e => ?_, h⟩
    have hp := List.pairwise_iff_getElem.1 ha.nodup
    rcases Nat.lt_or_gt_of_ne hne with h1 | h1
    · exact hp i k hi hk h1 e
    · exact hp k i hk hi h1 e.symm
  · rintro ⟨s, hs, x, hx, hlt, h⟩
    obtain ⟨i, hi, rfl⟩ := List.getElem_of_mem hs
    obtain ⟨k, hk, rfl⟩ := List.getElem_of_mem hx
    exact ⟨i, hi, k, hk, fun e => by subst e; omega, by rw [getD_at hi, getD_at hk]; exact h⟩
def GoodX (l : Cx) : Prop := l.length ≤ 4096 ∧ AscL l ∧ (∀ s ∈ l, chkV s = 0) ∧ ∀ s ∈ l, coveredC l s = false
theorem goodX_iff {l : Cx} : chkC l = 0 ↔ GoodX l := by
  unfold GoodX
  constructor
  · intro h
    obtain ⟨h1, h2, h3, h4⟩ := chkC_good h
    obtain ⟨h5, _, h6⟩ := chkO_asc l none h2
    rw [twice_any h5 h6, List.any_eq_false] at h3
    exact ⟨h1, h5, h6, fun s hs => by simpa using h3 s hs⟩
  · rintro ⟨h1, h2, h3, h4⟩
    unfold chkC
    have h5 : chkO none l = 0 := chkO_of l none h2 (fun u hu => by cases hu) h3
    have h6 : twiceC l = false := by
      rw [twice_any h2 h3, List.any_eq_false]
      exact fun s hs => by simp [h4 s hs]
    rw [if_neg (by omega), if_neg (by omega), if_neg (by simp [h6])]
theorem good_max {l : Cx} (hc : ∀ s ∈ l, s.length ≠ 0 → chkV s = 0) (hl : (maxC l).length ≤ 4096) : GoodX (maxC l) := by
  refine ⟨hl, maxC_asc l, fun s hs => ?_, fun s hs => ?_⟩
  · obtain ⟨h1, h2⟩ := maxC_mem.1 hs
    unfold topC at h2
    simp only [Bool.and_eq_true, decide_eq_true_eq] at h2
    exact hc s h1 (by omega)
  · obtain ⟨h1, h2⟩ := maxC_mem.1 hs
    unfold topC at h2
    simp only [Bool.and_eq_true, decide_eq_true_eq, Bool.not_eq_true'] at h2
    rw [Bool.eq_false_iff]
    intro hcv
    obtain ⟨x, hx, hr⟩ := coveredC_iff.1 hcv
    have := coveredC_iff.2 ⟨x, (maxC_mem.1 hx).1, hr⟩
    rw [h2.2] at this
    cases this
theorem max_good {l : Cx} (h : GoodX l) : maxC l = l := by
  rw [← maxC_eq (zs := l) (fun s hs => by have := chkV_zero.1 (h.2.2.1 s hs); omega) h.2.1 fun u => Iff.rfl]
  rw [List.filter_eq_self]
  intro s hs; simp [h.2.2.2 s hs]
theorem allC_mem : ∀ {l : Cx} {k : Nat} {x : List Vx}, x ∈ allC l k ↔ ∃ f ∈ l, x ∈ subsV k f := by
  have go : ∀ (l out : Cx) (k : Nat) (x : List Vx), x ∈ l.foldl (fun out f => if f.length < k then out else (subsV k f).foldl putC out) out ↔ x ∈ out ∨ ∃ f ∈ l, x ∈ subsV k f := by
    intro l
    induction l with
    | nil => intro out k x; simp
    | cons f l ih =>
      intro out k x
      rw [List.foldl_cons, ih]
      have e : x ∈ (if f.length < k then out else (subsV k f).foldl putC out) ↔ x ∈ out ∨ x ∈ subsV k f := by
        split
        · rename_i h; rw [subsV_short k f h]; simp
        · rw [foldPut_mem]; exact or_comm
      rw [e]
      constructor
      · rintro ((h | h) | ⟨g, hg, h⟩)
        · exact .inl h
        · exact .inr ⟨f, by simp, h⟩
        · exact .inr ⟨g, by simp [hg], h⟩
      · rintro (h | ⟨g, hg, h⟩)
        · exact .inl (.inl h)
        · rcases List.mem_cons.1 hg with rfl | hg
          · exact .inl (.inr h)
          · exact .inr ⟨g, hg, h⟩
  intro l k x
  unfold allC
  rw [go]; simp
theorem allC_asc (l : Cx) (k : Nat) : AscL (allC l k) := by
  have go : ∀ (l out : Cx), AscL out → AscL (l.foldl (fun out f => if f.length < k then out else (subsV k f).foldl putC out) out) := by
    intro l
    induction l with
    | nil => intro out h; exact h
    | cons f l ih =>
      intro out h
      rw [List.foldl_cons]
      refine ih _ ?_
      split
      · exact h
      · exact foldPut_asc h
  exact go l [] (by simp [AscL])
def newC (out : Cx) (l : Cx) : Cx := l.foldl (fun out f => if f ∈ out then out else out ++ [f]) out
def facC (l : Cx) (k : Nat) : Cx := l.foldl (fun out f => if f.length < k then out else newC out (subsV k f)) []
theorem newC_snoc {out l : Cx} {j : Nat} (h : j < l.length) : newC out (l.take (j + 1)) = if l[j] ∈ newC out (l.take j) then newC out (l.take j) else newC out (l.take j) ++ [l[j]] := by
  unfold newC; rw [take_snoc' h, List.foldl_append]; rfl
theorem newC_mem : ∀ {l out : Cx} {x : List Vx}, x ∈ newC out l ↔ x ∈ out ∨ x ∈ l
  | [], out, x => by simp [newC]
  | f :: l, out, x => by
    show x ∈ newC (if f ∈ out then out else out ++ [f]) l ↔ _
    rw [newC_mem (l := l)]
    split
    · rename_i h
      rw [List.mem_cons]
      constructor
      · rintro (h1 | h1)
        · exact .inl h1
        · exact .inr (.inr h1)
      · rintro (h1 | h1 | h1)
        · exact .inl h1
        · rw [h1]; exact .inl h
        · exact .inr h1
    · rw [List.mem_append, List.mem_singleton, List.mem_cons, or_assoc]
theorem newC_nodup : ∀ {l out : Cx}, out.Nodup → (newC out l).Nodup
  | [], out, h => h
  | f :: l, out, h => by
    show (newC (if f ∈ out then out else out ++ [f]) l).Nodup
    refine newC_nodup (l := l) ?_
    split
    · exact h
    · rename_i hf
      rw [List.nodup_append]
      exact ⟨h, by simp, fun a ha b hb => by rw [List.mem_singleton.1 hb]; exact fun e => hf (e ▸ ha)⟩
theorem newC_len (l out : Cx) : out.length ≤ (newC out l).length ∧ (newC out l).length ≤ out.length + l.length := by
  induction l generalizing out with
  | nil => simp [newC]
  | cons f l ih =>
    have h := ih (if f ∈ out then out else out ++ [f])
    have e : newC out (f :: l) = newC (if f ∈ out then out else out ++ [f]) l := rfl
    rw [e]
    split at h <;> (simp only [List.length_append, List.length_cons, List.length_nil] at h ⊢; rename_i hf; first | rw [if_pos hf] | rw [if_neg hf]) <;> omega
theorem facC_snoc {l : Cx} {k i : Nat} (h : i < l.length) : facC (l.take (i + 1)) k = if l[i].length < k then facC (l.take i) k else newC (facC (l.take i) k) (subsV k l[i]) := by
  unfold facC; rw [take_snoc' h, List.foldl_append]; rfl
theorem facC_inv (l : Cx) (k : Nat) : ∀ n, n ≤ l.length → (facC (l.take n) k).Nodup ∧ ∀ x, x ∈ facC (l.take n) k ↔ x ∈ allC (l.take n) k
  | 0, _ => by simp [facC, allC]
  | n + 1, hn => by
    obtain ⟨h1, h2⟩ := facC_inv l k n (by omega)
    have h3 : ∀ x, x ∈ allC (l.take (n + 1)) k ↔ x ∈ allC (l.take n) k ∨ x ∈ subsV k l[n] := fun x => by
      rw [allC_mem, allC_mem, take_snoc' (by omega)]
      constructor
      · rintro ⟨f, hf, hx⟩
        rcases List.mem_append.1 hf with hf | hf
        · exact .inl ⟨f, hf, hx⟩
        · rw [List.mem_singleton.1 hf] at hx; exact .inr hx
      · rintro (⟨f, hf, hx⟩ | hx)
        · exact ⟨f, List.mem_append.2 (.inl hf), hx⟩
        · exact ⟨l[n], List.mem_append.2 (.inr (List.mem_singleton.2 rfl)), hx⟩
    rw [facC_snoc (by omega)]
    split
    · rename_i hs
      refine ⟨h1, fun x => ?_⟩
      rw [h3, h2, subsV_short k _ hs]; simp
    · refine ⟨newC_nodup h1, fun x => ?_⟩
      rw [h3, newC_mem, h2]
theorem facC_len (l : Cx) (k n : Nat) (hn : n ≤ l.length) : (facC (l.take n) k).length = (allC (l.take n) k).length := by
  obtain ⟨h1, h2⟩ := facC_inv l k n hn
  exact ((List.perm_ext_iff_of_nodup h1 (allC_asc _ k).nodup).2 h2).length_eq
theorem facC_mono {l : Cx} {k n : Nat} (hn : n ≤ l.length) : (facC (l.take n) k).length ≤ (allC l k).length := by
  obtain ⟨h1, h2⟩ := facC_inv l k n hn
  have hsub : ∀ x ∈ facC (l.take n) k, x ∈ allC l k := fun x hx => by
    obtain ⟨f, hf, hx⟩ := allC_mem.1 ((h2 x).1 hx)
    exact allC_mem.2 ⟨f, List.mem_of_mem_take hf, hx⟩
  have hp : (facC (l.take n) k).Perm ((allC l k).filter fun x => decide (x ∈ facC (l.take n) k)) :=
    (List.perm_ext_iff_of_nodup h1 ((allC_asc l k).nodup.filter _)).2 fun x => by
      rw [List.mem_filter, decide_eq_true_eq]
      exact ⟨fun hx => ⟨hsub x hx, hx⟩, fun hx => hx.2⟩
  rw [hp.length_eq]
  exact List.length_filter_le _ _
theorem sorted_all {l ys : Cx} {k : Nat} (hp : ys.Perm (facC l k)) (hs : SortL ys) : ys = allC l k := by
  have h := facC_inv l k l.length (Nat.le_refl _)
  rw [List.take_length] at h
  refine ascL_ext ?_ (allC_asc l k) fun x => by rw [hp.mem_iff]; exact h.2 x
  have hn : ys.Nodup := hp.nodup_iff.2 h.1
  refine List.Pairwise.imp₂ (fun a b h1 h2 => ?_) hs hn
  rcases cmpL_cases a b with h3 | h3 | h3
  · exact h3
  · exact absurd h3 h1
  · exact absurd h3 h2
end Go.Proofs.YtjbepoofigokjaaGreat
