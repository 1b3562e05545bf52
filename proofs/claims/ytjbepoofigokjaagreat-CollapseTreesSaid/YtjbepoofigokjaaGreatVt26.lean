/-
  Part 26 of the texts that the claims of this seat lean on: walks of the program's functions by contracts over symbolic frames, and plain laws of what they compute. No condition.
-/
import Derived.Deep.OwnRows
import Derived.Test.YtjbepoofigokjaaGreatVt14
import Derived.Test.YtjbepoofigokjaaGreatVt19
import Derived.Test.YtjbepoofigokjaaGreatVt22
import Derived.Test.YtjbepoofigokjaaGreatVt23
import Derived.Test.YtjbepoofigokjaaGreatVt24
import Derived.Test.YtjbepoofigokjaaGreatVt25
set_option linter.unusedVariables false
set_option linter.unusedSimpArgs false
set_option linter.unusedSectionVars false
namespace Go.Proofs.YtjbepoofigokjaaGreat
open Go.RowKit
set_option linter.unusedSimpArgs false

set_option maxHeartbeats 2000000
set_option maxRecDepth 100000
theorem mapT_par : MapT Tryz.prog 130 63 63 (.agg #[.int .i64 0, .int .i64 0]) := ⟨Tryz.underlying130, fun w => by kernel_rfl⟩
theorem tyPar : TyI Tryz.prog 130 1 false := ⟨by kernel_rfl, Tryz.isAgg130⟩
theorem tzPar : TyZ Tryz.prog 130 (.map none) := ⟨by kernel_rfl⟩
theorem mapT_num : MapT Tryz.prog 133 63 3 (.int .i64 0) := ⟨Tryz.underlying133, fun w => by kernel_rfl⟩
theorem tzVx : TyZ Tryz.prog 63 (.agg #[.int .i64 0, .int .i64 0]) := ⟨by kernel_rfl⟩
abbrev UF := List (Vx × Vx)
abbrev hU (b : Nat) (M : UF) : HObj := hM b kvV kvV M
abbrev hUc (b b5 : Nat) : HObj := hCell b5 130 1 false (dX (.map (some b)))
theorem ok_nodup {M : UF} (h : OkM M) : (M.map (·.1)).Nodup := by
  induction h with
  | nil => simp
  | snoc _ ha _ _ ih =>
    rename_i m a b _ _ _
    rw [List.map_append, List.nodup_append]
    refine ⟨ih, by simp, fun x hx c hc => ?_⟩
    have hca : c = a := by simpa using hc
    rw [hca]
    rintro rfl
    exact ha hx
def AllV (M : UF) : Prop := ∀ p ∈ M, okV p.1 ∧ okV p.2
theorem look_mem' {M : UF} {x u : Vx} (h : lookM M x = some u) : ∃ p ∈ M, p.2 = u := by
  unfold lookM at h
  cases hf : M.find? (fun p => decide (p.1 = x)) with
  | none => rw [hf] at h; cases h
  | some p => rw [hf] at h; cases h; exact ⟨p, List.mem_of_find?_eq_some hf, rfl⟩
set_option maxHeartbeats 4000000 in
theorem root27_p {M : UF} (hM : OkM M) (hk : AllV M) {v : Vx} (hv : okV v) : Fn Tryz.prog 99 ([dS RV v] ++ [dP 1 false (dS (MapR kvV RV) M)]) (dS RV (repM M v)) := by
  show Fn Tryz.prog 99 [dS RV v, dP 1 false (dS (MapR kvV RV) M)] _
  have hn := ok_nodup hM
  refine Fn.introC1 tyV Tryz.func99 rfl rfl ?_
  simp only [Tryz.ntmps99, List.length_cons, List.length_nil, Nat.reduceAdd, Nat.reduceSub, List.replicate_succ, List.replicate_zero, List.cons_append, List.nil_append]
  (repeat' (first | refine WL.nil ?_ | refine WC.seqK fun Kx hK => ?_ | (refine hK _ _ ?_; clear hK) | refine WC.region ?_ |  (refine WL.boxC (OpD.t rfl) shape_V fun b2 => ?_; dsimp only [setD, z0, z1]) |  (refine WL.alloc tzVx shape_XV fun b3 => ?_; dsimp only [setD, z0, z1]) | refine WC.block ?_))
  refine WC.perm (List.Perm.swap _ _ _) ?_
  (refine WC.loopU (X := Vx) (fun x => [(4, dA), (5, dA), (6, dA), (7, dA), (8, dA), (9, dA), (10, dA), (11, dA), (12, dA), (13, dA), (14, dA), (15, dA)]) (fun x => (hCell b2 63 2 true (dS RV x) :: hCell b3 63 2 true (dX (.agg #[.int .i64 0, .int .i64 0])) :: [])) (fun x => depM M x) (fun x => okV x ∧ repM M x = repM M v) v ?start ?frame0 ?objs0 ?round)
  case start => exact ⟨hv, rfl⟩
  case frame0 => ((try dsimp only [upds, z0, z1]); repeat (first | exact LeF.nil | refine LeF.co (k := ?_)))
  case objs0 => rfl
  case round =>
    rintro x ⟨h1, h2⟩
    dsimp only [upds, z0, z1]
    cases hl : lookM M x with
    | none =>
      ((repeat' (first | (apply WL.opN; exact yF; dsimp only [setD, z0, z1]) | refine WL.nil ?_ | refine WC.seqK fun Kx hK => ?_ | (refine hK _ _ ?_; clear hK) | refine WC.region ?_ | (apply WL.alloc; (first | exact tzV | exact tzC); (first | exact shape_X rfl | exact shape_XV | exact shape_C0 rfl); (intro _; dsimp only [setD, z0, z1])) | (apply WL.storeF; (exact tD); rfl; (exact oD); (exact hD); dsimp only [setD, z0, z1]) | (apply WL.storeF2; (exact tD); rfl; (exact oD); (exact hD); dsimp only [setD, z0, z1]) | (apply WL.storeF3; (exact tD); rfl; (exact oD); (exact hD); dsimp only [setD, z0, z1]) | (apply WL.opN; (focus ((first | (apply SY.load tyPar; exact OpD.t rfl) | (apply SY.loadH tyV; exact OpD.t rfl; exact .head _) | (refine SY.lookR2n (a0 := ((0, 0) : Vx)) mapT_par keyT_V (OpD.t rfl) (OpD.t rfl) ⟨fun _ _ _ h => h⟩ h1 (fun p hp => (hk p hp).1) hn (fun _ _ => rfl) hl) | ((first | apply SY.move | apply SY.assign | apply SY.not) <;> (exact oD)) | (apply SY.extract; (exact oD); rfl) | fail); all_goals infer_instance)); dsimp only [setD, z0, z1]) | (apply WC.condNB; (exact oD); all_goals (intro h; try exact xD)) | refine WC.ret ?_ | refine WC.block ?_ | refine ThenD.r ?_ | refine InBlockD.r ?_)); all_goals (first | ((repeat clear hK); (repeat clear Kx))))
      have hr := (rep_root hM (look_none.1 hl)).1
      rw [← h2, hr]
      (refine ⟨trivial, _, rfl, ?_⟩; exact fD)
    | some u =>
      obtain ⟨h3, h4⟩ := rep_step hM hl
      obtain ⟨p, hp, hpu⟩ := look_mem' hl
      ((repeat' (first | (apply WL.opN; exact yF; dsimp only [setD, z0, z1]) | refine WL.nil ?_ | refine WC.seqK fun Kx hK => ?_ | (refine hK _ _ ?_; clear hK) | refine WC.region ?_ |  (refine WL.storeK (t := 2) tyV (OpD.t rfl) (OpD.t rfl) shape_V ?_; dsimp only [setD, z0, z1]) | (apply WL.alloc; (first | exact tzV | exact tzC); (first | exact shape_X rfl | exact shape_XV | exact shape_C0 rfl); (intro _; dsimp only [setD, z0, z1])) | (apply WL.storeF; (exact tD); rfl; (exact oD); (exact hD); dsimp only [setD, z0, z1]) | (apply WL.opN; (focus ((first | (apply SY.load tyPar; exact OpD.t rfl) | (apply SY.loadH tyV; exact OpD.t rfl; exact .head _) | (refine SY.lookR2s (a0 := ((0, 0) : Vx)) mapT_par keyT_V (OpD.t rfl) (OpD.t rfl) ⟨fun _ _ _ h => h⟩ h1 (fun p hp => (hk p hp).1) hn (fun _ _ => rfl) hl) | ((first | apply SY.move | apply SY.assign | apply SY.not) <;> (exact oD)) | (apply SY.extract; (exact oD); rfl) | fail); all_goals infer_instance)); dsimp only [setD, z0, z1]) | (apply WC.condNB; (exact oD); all_goals (intro h; try exact xD)) | refine WC.skip ?_ | refine WC.block ?_ | refine ThenD.n ?_ | refine InBlockD.n ?_)); all_goals (first | ((repeat clear hK); (repeat clear Kx))))
      (refine ⟨u, ?_, by first | omega | (simp only; omega), rfl, ?_⟩; rotate_left; ((try dsimp only [upds, z0, z1]); repeat (first | exact LeF.nil | refine LeF.co (k := ?_))); (try dsimp only))
      exact ⟨hpu ▸ (hk p hp).2, by rw [← h3]; exact h2⟩
theorem ufs_ok (es : List (Vx × Vx)) (h : ∀ e ∈ es, okV e.1 ∧ okV e.2) : AllV (joinsM [] es) := by
  have hr : ∀ (M : UF) (x : Vx), AllV M → okV x → okV (repM M x) := fun M x hM hx => by
    unfold repM
    induction M generalizing x with
    | nil => exact hx
    | cons p M ih =>
      rw [List.foldl_cons]
      refine ih _ (fun q hq => hM q (List.mem_cons_of_mem _ hq)) ?_
      split
      · exact (hM p (by simp)).2
      · exact hx
  revert h
  refine take_ind (P := fun es => (∀ e ∈ es, okV e.1 ∧ okV e.2) → AllV (joinsM [] es)) (fun _ p hp => by simp [joinsM] at hp) (fun l a ih h => ?_) es
  have h1 := ih fun e he => h e (List.mem_append_left _ he)
  have h2 := h a (by simp)
  rw [joins_snoc]
  unfold joinM
  split
  · exact h1
  · intro p hp
    rcases List.mem_append.1 hp with hp | hp
    · exact h1 p hp
    · rw [List.mem_singleton.1 hp]
      exact ⟨hr _ _ h1 h2.1, hr _ _ h1 h2.2⟩
theorem okV_chk {s : List Vx} (h : chkV s = 0) : ∀ v ∈ s, okV v := ok_vx h
theorem edg_ok {l : Cx} (hl : ∀ s ∈ l, chkV s = 0) : ∀ e ∈ edgC l, okV e.1 ∧ okV e.2 := fun e he => by
  obtain ⟨f, hf, e1, e2⟩ := edgC_mem.1 he
  have h0 := (chk_len (hl f hf)).1
  exact ⟨e1 ▸ okV_chk (hl f hf) _ (hd_mem (by omega)), okV_chk (hl f hf) _ (List.mem_of_mem_drop e2)⟩
theorem edgS_ok {s : List Vx} (h : chkV s = 0) : ∀ e ∈ edgS s, okV e.1 ∧ okV e.2 := fun e he => by
  obtain ⟨v, hv, rfl⟩ := List.mem_map.1 he
  have h0 := (chk_len h).1
  exact ⟨okV_chk h _ (hd_mem (by omega)), okV_chk h _ (List.mem_of_mem_drop hv)⟩
theorem edgS_at {s : List Vx} {j : Nat} (h : j < (edgS s).length) (h' : j < (s.drop 1).length) : (edgS s)[j] = (hdV s, (s.drop 1)[j]) := by simp [edgS]
theorem num_look {l : Cx} {i : Nat} (h : i < l.length) : lookM (numG 0 (distG ((rootsC l).take i))) (rootC l l[i]) = if rootC l l[i] ∈ distG ((rootsC l).take i) then some (numC l l[i] : Int) else none := by
  rw [numG_look, num_at h]
  split
  · rw [Int.zero_add]
  · rfl
theorem num_next {l : Cx} {i : Nat} (h : i < l.length) (hn : rootC l l[i] ∉ distG ((rootsC l).take i)) : numG 0 (distG ((rootsC l).take (i + 1))) = numG 0 (distG ((rootsC l).take i)) ++ [(rootC l l[i], (numC l l[i] : Int))] := by
  have e := dist_snoc (rs := rootsC l) (k := i) (by simpa [rootsC] using h)
  have e1 : (rootsC l)[i]'(by simpa [rootsC] using h) = rootC l l[i] := by simp [rootsC]
  rw [e1, if_neg hn] at e
  rw [e, numG_app, num_at h, idx_none hn]
  simp [numG]
theorem num_same {l : Cx} {i : Nat} (h : i < l.length) (hn : rootC l l[i] ∈ distG ((rootsC l).take i)) : distG ((rootsC l).take (i + 1)) = distG ((rootsC l).take i) := by
  have e := dist_snoc (rs := rootsC l) (k := i) (by simpa [rootsC] using h)
  have e1 : (rootsC l)[i]'(by simpa [rootsC] using h) = rootC l l[i] := by simp [rootsC]
  rwa [e1, if_pos hn] at e
theorem compC_snoc {l : Cx} {i : Nat} (h : i < l.length) : (compC l).take (i + 1) = (compC l).take i ++ [(numC l l[i] : Int)] := by
  have h' : i < (compC l).length := by simpa [compC] using h
  rw [take_snoc' h']
  simp [compC]
theorem rep_okV {M : UF} {x : Vx} (hM : AllV M) (hx : okV x) : okV (repM M x) := by
  unfold repM
  induction M generalizing x with
  | nil => exact hx
  | cons p M ih =>
    rw [List.foldl_cons]
    refine ih (fun q hq => hM q (List.mem_cons_of_mem _ hq)) ?_
    split
    · exact (hM p (by simp)).2
    · exact hx
theorem num_keys (l : Cx) (k : Nat) : ((numG 0 (distG ((rootsC l).take k))).map (·.1)).Nodup := by rw [numG_keys]; exact (dist_inv _).1
theorem num_ok {l : Cx} (hl : ∀ s ∈ l, chkV s = 0) (k : Nat) : ∀ p ∈ numG 0 (distG ((rootsC l).take k)), okV p.1 := fun p hp => by
  have h1 := List.mem_map_of_mem (f := (·.1)) hp
  rw [numG_keys] at h1
  have h2 := List.mem_of_mem_take (((dist_inv _).2 _).1 h1)
  obtain ⟨s, hs, he⟩ := List.mem_map.1 h2
  rw [← he]
  exact rep_okV (ufs_ok _ (edg_ok hl)) (okV_chk (hl s hs) _ (hd_mem (by have := chk_len (hl s hs); omega)))
section
variable {ops : Array Oper} {hp : List HObj} {fr : List Dat}
variable {dst : Option Tmp} {ty : TypeId} {ps : String} {af : Array Edge} {g : Option (Nat × Bool)} {p q : Int × Int} {x y : Operand} {T2 : TypeId}
theorem SY.neqVt (h : p ≠ q) (hx : OpD fr x (dS RV p)) (hy : OpD fr y (dS RV q)) : SY Tryz.prog ops hp { dst := dst, op := .binOp .neq 63 x y T2, type := ty, pos := ps, after := af, guard := g } fr (dB true) := by
  have := SY.neqV (ops := ops) (hp := hp) (dst := dst) (ty := ty) (ps := ps) (af := af) (g := g) (T2 := T2) vxT hx hy
  rwa [decide_eq_false h] at this
theorem SY.neqVf (h : p = q) (hx : OpD fr x (dS RV p)) (hy : OpD fr y (dS RV q)) : SY Tryz.prog ops hp { dst := dst, op := .binOp .neq 63 x y T2, type := ty, pos := ps, after := af, guard := g } fr (dB false) := by
  have := SY.neqV (ops := ops) (hp := hp) (dst := dst) (ty := ty) (ps := ps) (af := af) (g := g) (T2 := T2) vxT hx hy
  rwa [decide_eq_true h] at this
end
def compP (l : Cx) : List Int × Int := if chkC l ≠ 0 then ([], chkC l) else (compC l, 0)
theorem ix0 {s : List Vx} (h : 0 < s.length) : s[0] = hdV s := by
  cases s with
  | nil => simp at h
  | cons v s => rfl
set_option maxHeartbeats 8000000 in
theorem components27_p (l : Cx) : Fn Tryz.prog 57 [dS Cpx l] (dT [dS Ints (compP l).1, dI (compP l).2]) := by
  (refine Fn.intro2 Tryz.func57 rfl rfl ?_; simp only [Tryz.ntmps57, List.length_cons, List.length_nil, Nat.reduceAdd, Nat.reduceSub, List.replicate_succ, List.replicate_zero, List.cons_append, List.nil_append])
  by_cases h0 : chkC l = 0
  · have hg := goodX_iff.1 h0
    have e : compP l = (compC l, 0) := by unfold compP; rw [if_neg (by omega)]
    have hll := hg.1
    (repeat' (first | ((first | apply WL.opN | apply WD.opN); exact yF; dsimp only [setD, z0, z1]) | refine WL.nil ?_ | refine WC.seqK fun Kx hK => ?_ | (refine hK _ _ ?_; clear hK) | refine WC.region ?_ |  (refine WL.makeMap kvV kvV fun b => ?_; dsimp only [setD, z0, z1]) |  (refine WL.alloc tzPar (shape_X rfl) fun b5 => ?_; dsimp only [setD, z0, z1]) |  (refine WL.storeK tyPar (OpD.t rfl) (OpD.t rfl) (shape_X rfl) ?_; dsimp only [setD, z0, z1]) | ((first | apply WL.opN | apply WD.opN); (focus ((first | (apply SY.call (check_p _) Tryz.call35; (exact aD)) | (apply SY.makeX; exact ArgsX.cons (OpD.t rfl) ArgsX.nil) | ((first | apply SY.move | apply SY.assign | apply SY.lss | apply SY.neq | apply SY.not) <;> (exact oD)) | (apply SY.len; (exact oD); (exact nD); (exact uD)) | (apply SY.fldC cpxT; exact OpD.t rfl) | (apply SY.box; (exact oD); (exact hD)) | fail); all_goals infer_instance)); dsimp only [setD, z0, z1]) | (apply WC.condN; (exact oD); all_goals (intro h; try exact xD)) | refine WC.skip ?_ | refine WC.block ?_))
    refine WC.perm (List.Perm.swap _ _ _) ?_
    (refine WC.loopU (X := Nat × UF) (fun x => [(30, dI (x.1 : Int)), (8, dA), (10, dA), (11, dA), (12, dA), (31, dA), (32, dA), (33, dA), (34, dA), (35, dA), (36, dA), (37, dA), (38, dA), (39, dA), (40, dA), (41, dA), (42, dA), (43, dA), (44, dA), (45, dA), (46, dA), (47, dA), (48, dA), (49, dA), (50, dA), (51, dA), (52, dA), (53, dA), (54, dA), (55, dA), (56, dA)]) (fun x => (hU b x.2 :: hUc b b5 :: [])) (fun x => l.length - x.1) (fun x => x.1 ≤ l.length ∧ x.2 = joinsM [] (edgC (l.take x.1))) (0, []) ?start ?frame0 ?objs0 ?round)
    case start => exact ⟨Nat.zero_le _, rfl⟩
    case frame0 => ((try dsimp only [upds, z0, z1]); repeat (first | exact LeF.nil | refine LeF.co (k := ?_)))
    case objs0 => rfl
    case round =>
      rintro ⟨i, M⟩ ⟨h1, h2⟩
      simp only at h1 h2
      dsimp only [upds, z0, z1]
      by_cases hi : i < l.length
      · have hs := hg.2.2.1 _ (List.getElem_mem hi)
        obtain ⟨hs1, hs8⟩ := chk_len hs
        have hdl : (l[i].drop 1).length ≤ 8 := by rw [List.length_drop]; omega
        have hes := edg_ok (l := l.take i) fun s hs => hg.2.2.1 s (List.mem_of_mem_take hs)
        (repeat' (first | ((first | apply WL.opN | apply WD.opN); exact yF; dsimp only [setD, z0, z1]) | refine WL.nil ?_ | refine WC.seqK fun Kx hK => ?_ | (refine hK _ _ ?_; clear hK) | refine WC.region ?_ | ((first | apply WL.opN | apply WD.opN); (focus ((first | (refine SY.fromK (R := RV) (_gR := inferInstance) elV (OpD.t rfl) OpD.i 1 rfl (by omega)) | ((first | apply SY.move | apply SY.assign | apply SY.lss | apply SY.neq | apply SY.not) <;> (exact oD)) | (apply SY.len; (exact oD); (exact nD); (exact uD)) | (apply SY.ix; (exact eD); (exact oD); (exact oD); exact kD) | fail); all_goals infer_instance)); dsimp only [setD, z0, z1]) | (apply WC.condD; (exact oD); all_goals (intro h; try exact xD)) | refine WC.skip ?_ | refine WC.block ?_))
        (refine WC.loopU (X := Nat × UF) (fun x => [(37, dI (x.1 : Int)), (10, dA), (11, dA), (12, dA), (38, dA), (39, dA), (40, dA), (41, dA), (42, dA), (43, dA), (44, dA), (45, dA), (46, dA), (47, dA), (48, dA), (49, dA), (50, dA), (51, dA), (52, dA), (53, dA), (54, dA), (55, dA)]) (fun x => (hU b x.2 :: hUc b b5 :: [])) (fun x => (l[i].drop 1).length - x.1) (fun x => x.1 ≤ (l[i].drop 1).length ∧ x.2 = joinsM [] (edgC (l.take i) ++ (edgS l[i]).take x.1)) (0, M) ?start ?frame0 ?objs0 ?round)
        case start => exact ⟨Nat.zero_le _, by rw [List.take_zero, List.append_nil]; exact h2⟩
        case frame0 => ((try dsimp only [upds, z0, z1]); repeat (first | exact LeF.nil | refine LeF.co (k := ?_)))
        case objs0 => rfl
        case round =>
          rintro ⟨j, M⟩ ⟨g1, g2⟩
          simp only at g1 g2
          dsimp only [upds, z0, z1]
          by_cases hj : j < (l[i].drop 1).length
          · have hje : j < (edgS l[i]).length := by unfold edgS; rwa [List.length_map]
            have hall : ∀ e ∈ edgC (l.take i) ++ (edgS l[i]).take j, okV e.1 ∧ okV e.2 := fun e he => by
              rcases List.mem_append.1 he with he | he
              · exact hes e he
              · exact edgS_ok hs e (List.mem_of_mem_take he)
            have hMo : OkM M := by rw [g2]; exact joins_ok .nil
            have hk : AllV M := by rw [g2]; exact ufs_ok _ hall
            have hn := ok_nodup hMo
            have hv0 := okV_chk hs _ (List.getElem_mem hs1)
            have hv1 := okV_chk hs _ (List.mem_of_mem_drop (List.getElem_mem hj))
            have hnext : joinsM [] (edgC (l.take i) ++ (edgS l[i]).take (j + 1)) = joinM M l[i][0] (l[i].drop 1)[j] := by
              rw [take_snoc' hje, ← List.append_assoc, joins_snoc, ← g2]
              have : (edgS l[i])[j] = (hdV l[i], (l[i].drop 1)[j]) := edgS_at hje hj
              rw [this, ix0 hs1]
            have c1 := root27_p hMo hk hv0
            have c2 := root27_p hMo hk hv1
            (repeat' (first |  (refine WC.draw2 (fun hp' => hU b M ∈ hp' ∧ hUc b b5 ∈ hp') 10 2 [0, 1, 2, 3, 4, 5, 6, 7] 8 9 [true, true, true, true, true, true, true, true, true, true, false, false] (by kernel_rfl) (by kernel_rfl) (by kernel_rfl) rfl (⟨.head _, .tail _ (.head _)⟩) ?_) | (refine WRd.nil ⟨?_, ?_⟩) | (apply WRd.readL rfl; (focus (intro c hcc; apply SYG.yes; (exact want_none rfl); ((first | (refine SY.ixK (R := RV) (_gR := inferInstance) (k := 0) elV (OpD.t rfl) OpD.i hs1) | (refine SY.callO1 c1 bare_RV Tryz.call99 (OpD.t rfl) (ArgsD.cons (OpD.t rfl) ArgsD.nil) (CapH.map hcc.2 hcc.1 fun _ _ _ => rfl)) | (refine SY.callO1 c2 bare_RV Tryz.call99 (OpD.t rfl) (ArgsD.cons (OpD.t rfl) ArgsD.nil) (CapH.map hcc.2 hcc.1 fun _ _ _ => rfl)) | ((first | apply SY.move | apply SY.assign | apply SY.lss | apply SY.neq | apply SY.not) <;> (exact oD)) | (apply SY.load; (exact tD); (exact oD)) | fail); all_goals infer_instance))); dsimp only [setD, z0, z1]) | ((first | apply WL.opN | apply WD.opN); exact yF; dsimp only [setD, z0, z1]) | refine WL.nil ?_ | refine WC.seqK fun Kx hK => ?_ | (refine hK _ _ ?_; clear hK) | refine WC.region ?_ | (apply WL.alloc; (first | exact tzV | exact tzC); (first | exact shape_X rfl | exact shape_XV | exact shape_C0 rfl); (intro _; dsimp only [setD, z0, z1])) | (apply WL.storeF; (exact tD); rfl; (exact oD); (exact hD); dsimp only [setD, z0, z1]) | ((first | apply WL.opN | apply WD.opN); (focus ((first | ((first | apply SY.move | apply SY.assign | apply SY.lss | apply SY.neq | apply SY.not) <;> (exact oD)) | (apply SY.ixK; (exact eD); (exact oD); (exact oD); exact kD) | fail); all_goals infer_instance)); dsimp only [setD, z0, z1]) | (apply WC.condD; (exact oD); all_goals (intro h; try exact xD)) | refine WC.skip ?_ | refine WC.block ?_))
            all_goals
              refine W2.mk' rfl rfl (SW.alloc tzVx shape_XV) (fun _ => ⟨.tail _ (.head _), .tail _ (.tail _ (.head _))⟩) (fun _ => SW.alloc tzVx shape_XV) (fun _ _ => ⟨.tail _ (.tail _ (.head _)), .tail _ (.tail _ (.tail _ (.head _)))⟩) (fun x y => ?_)
              dsimp only [setD, z0, z1]
            all_goals
              by_cases hq : repM M l[i][0] = repM M (l[i].drop 1)[j]
              · have hjn : joinM M l[i][0] (l[i].drop 1)[j] = M := by unfold joinM; rw [if_pos hq]
                ((repeat' (first |  (first | refine WA.one (S := [true, true, true, true, true, true, true, true, true, true, false, false]) (i := 10) (by kernel_rfl) rfl ?_ | refine WA.one (S := [true, true, true, true, true, true, true, true, true, true, true, false]) (i := 11) (by kernel_rfl) rfl ?_ | refine WA.nil (S := [true, true, true, true, true, true, true, true, true, true, true, true]) (by kernel_rfl) ?_) | ((first | apply WL.opN | apply WD.opN); exact yF; dsimp only [setD, z0, z1]) | refine WL.nil ?_ | refine WC.seqK fun Kx hK => ?_ | (refine hK _ _ ?_; clear hK) | refine WC.region ?_ | (apply WL.storeF; (exact tD); rfl; (exact oD); (exact hD); dsimp only [setD, z0, z1]) | (apply WL.storeF2; (exact tD); rfl; (exact oD); (exact hD); dsimp only [setD, z0, z1]) | (apply WL.storeF3; (exact tD); rfl; (exact oD); (exact hD); dsimp only [setD, z0, z1]) | ((first | apply WL.opN | apply WD.opN); (focus ((first | (refine SY.neqVf hq (OpD.t rfl) (OpD.t rfl)) | ((first | apply SY.add) <;> first | exact oD | omega) | fail); all_goals infer_instance)); dsimp only [setD, z0, z1]) | (apply WC.condF; (exact oD); (with_reducible rfl)) | refine WC.skip ?_ | refine ThenD.n ?_)); all_goals (first | ((repeat clear hK); (repeat clear Kx))))
                (refine ⟨(j + 1, joinM M l[i][0] (l[i].drop 1)[j]) , ?_, by first | omega | (simp only; omega), by ((try simp only);  rw [hjn]), ?_⟩; rotate_left; ((try dsimp only [upds, z0, z1]); repeat (first | exact LeF.nil | refine LeF.co (k := ?_))); (try dsimp only))
                exact ⟨by omega, hnext.symm⟩
              · have hne : ∀ p ∈ M, p.1 ≠ repM M l[i][0] := fun p hp hc => rep_not hMo l[i][0] (by have h5 : p.1 ∈ M.map (·.1) := List.mem_map_of_mem hp; rwa [hc] at h5)
                have hjn : joinM M l[i][0] (l[i].drop 1)[j] = M ++ [(repM M l[i][0], repM M (l[i].drop 1)[j])] := by unfold joinM; rw [if_neg hq]
                have hro := rep_okV hk hv0
                ((repeat' (first |  (first | refine WA.one (S := [true, true, true, true, true, true, true, true, true, true, false, false]) (i := 10) (by kernel_rfl) rfl ?_ | refine WA.one (S := [true, true, true, true, true, true, true, true, true, true, true, false]) (i := 11) (by kernel_rfl) rfl ?_ | refine WA.nil (S := [true, true, true, true, true, true, true, true, true, true, true, true]) (by kernel_rfl) ?_) | ((first | apply WL.opN | apply WD.opN); exact yF; dsimp only [setD, z0, z1]) | refine WL.nil ?_ | refine WC.seqK fun Kx hK => ?_ | (refine hK _ _ ?_; clear hK) | refine WC.region ?_ |  (refine WL.putMap (u := repM M (l[i].drop 1)[j]) mapT_par keyT_V (OpD.t rfl) (OpD.t rfl) ⟨fun _ _ _ h => h⟩ (OpD.t rfl) ⟨fun _ _ _ h => h⟩ hro (fun p hp => (hk p hp).1) hn ?_; dsimp only [setD]) | (apply WL.storeF; (exact tD); rfl; (exact oD); (exact hD); dsimp only [setD, z0, z1]) | (apply WL.storeF2; (exact tD); rfl; (exact oD); (exact hD); dsimp only [setD, z0, z1]) | (apply WL.storeF3; (exact tD); rfl; (exact oD); (exact hD); dsimp only [setD, z0, z1]) | ((first | apply WL.opN | apply WD.opN); (focus ((first | (refine SY.neqVt hq (OpD.t rfl) (OpD.t rfl)) | (apply SY.loadH tyPar; exact OpD.t rfl; exact .tail _ (.head _)) | ((first | apply SY.add) <;> first | exact oD | omega) | fail); all_goals infer_instance)); dsimp only [setD, z0, z1]) | (apply WC.condT; (exact oD); (with_reducible rfl)) | refine ThenD.n ?_)); all_goals (first | ((repeat clear hK); (repeat clear Kx))))
                (refine ⟨(j + 1, joinM M l[i][0] (l[i].drop 1)[j]) , ?_, by first | omega | (simp only; omega), by ((try simp only);  rw [hjn, putM_new hne]), ?_⟩; rotate_left; ((try dsimp only [upds, z0, z1]); repeat (first | exact LeF.nil | refine LeF.co (k := ?_))); (try dsimp only))
                exact ⟨by omega, hnext.symm⟩
          · ((repeat' (first | ((first | apply WL.opN | apply WD.opN); exact yF; dsimp only [setD, z0, z1]) | refine WL.nil ?_ | refine WC.seqK fun Kx hK => ?_ | (refine hK _ _ ?_; clear hK) | (refine Kont.skip ?_; clear hK) | refine WC.region ?_ | ((first | apply WL.opN | apply WD.opN); (focus ((first | ((first | apply SY.move | apply SY.assign | apply SY.lss | apply SY.neq | apply SY.not) <;> (exact oD)) | ((first | apply SY.add) <;> first | exact oD | omega) | fail); all_goals infer_instance)); dsimp only [setD, z0, z1]) | (apply WC.condD; (exact oD); all_goals (intro h; try exact xD)) | refine WC.exit ?_ | refine ThenD.n ?_)); all_goals (first | ((repeat clear hK); (repeat clear Kx))))
            (refine ⟨(i + 1, M), ?_, by first | omega | (simp only; omega), rfl, ?_⟩; rotate_left; ((try dsimp only [upds, z0, z1]); repeat (first | exact LeF.nil | refine LeF.co (k := ?_))); (try dsimp only))
            refine ⟨by omega, ?_⟩
            show M = _
            rw [g2, edgC_snoc hi, List.take_of_length_le (l := edgS l[i]) (by unfold edgS; rw [List.length_map]; omega)]
      · have hie : i = l.length := by omega
        subst hie
        rw [List.take_length] at h2
        have hMo : OkM M := by rw [h2]; exact joins_ok .nil
        have hk : AllV M := by rw [h2]; exact ufs_ok _ (edg_ok hg.2.2.1)
        have hn := ok_nodup hMo
        (repeat' (first | ((first | apply WL.opN | apply WD.opN); exact yF; dsimp only [setD, z0, z1]) | refine WL.nil ?_ | refine WC.seqK fun Kx hK => ?_ | (refine hK _ _ ?_; clear hK) | (refine Kont.skip ?_; clear hK) | refine WC.region ?_ |  (refine WL.makeMap kvV vvN fun bn => ?_; dsimp only [setD, z0, z1]) | ((first | apply WL.opN | apply WD.opN); (focus ((first | ((first | apply SY.move | apply SY.assign | apply SY.lss | apply SY.neq | apply SY.not) <;> (exact oD)) | (apply SY.len; (exact oD); (exact nD); (exact uD)) | (apply SY.fldC cpxT; exact OpD.t rfl) | fail); all_goals infer_instance)); dsimp only [setD, z0, z1]) | (apply WC.condD; (exact oD); all_goals (intro h; try exact xD)) | refine WC.exit ?_ | refine WC.block ?_))
        refine WC.nilRow 3 RI ?_
        (refine WC.loopU (X := Nat × Value) (fun x => [(61, dI (x.1 : Int)), (14, dX x.2), (16, dA), (17, dA), (18, dA), (19, dA), (62, dA), (63, dA), (64, dA), (65, dA), (66, dA), (67, dA), (68, dA), (69, dA), (70, dA), (71, dA), (72, dA), (73, dA), (74, dA), (75, dA), (76, dA), (77, dA), (78, dA), (79, dA), (80, dA), (81, dA), (82, dA), (83, dA), (84, dA), (85, dA), (86, dA), (87, dA), (88, dA)]) (fun x => (hRow x.2 3 RI ((compC l).take x.1) :: hM bn kvV vvN (numG 0 (distG ((rootsC l).take x.1))) :: hU b M :: hUc b b5 :: [])) (fun x => l.length - x.1) (fun x => x.1 ≤ l.length) (0, .slice none 0 0) ?start ?frame0 ?objs0 ?round)
        case start => exact Nat.zero_le _
        case frame0 => ((try dsimp only [upds, z0, z1]); repeat (first | exact LeF.nil | refine LeF.co (k := ?_)))
        case objs0 => rfl
        case round =>
          rintro ⟨k, v⟩ q1
          simp only at q1
          dsimp only [upds, z0, z1]
          by_cases hkl : k < l.length
          · have hs := hg.2.2.1 _ (List.getElem_mem hkl)
            obtain ⟨hs1, hs8⟩ := chk_len hs
            have hv0 := okV_chk hs _ (List.getElem_mem hs1)
            have c3 := root27_p hMo hk hv0
            have er : repM M l[k][0] = rootC l l[k] := by rw [h2, ix0 hs1]; rfl
            rw [er] at c3
            have hro : okV (rootC l l[k]) := by rw [← er]; exact rep_okV hk hv0
            have hcl : ((compC l).take k).length ≤ 4096 := by rw [List.length_take]; unfold compC; rw [List.length_map]; omega
            have hnl := num_look hkl
            have hnd := num_keys l k
            have hno := num_ok hg.2.2.1 k
            by_cases hin : rootC l l[k] ∈ distG ((rootsC l).take k)
            · rw [if_pos hin] at hnl
              have hsame := num_same hkl hin
              ((repeat' (first | ((first | apply WL.opN | apply WD.opN); exact yF; dsimp only [setD, z0, z1]) | refine WL.nil ?_ | refine WC.seqK fun Kx hK => ?_ | (refine hK _ _ ?_; clear hK) | refine WC.region ?_ | ((first | apply WL.pushK | apply WL.push1); (exact eD); exact OpD.t rfl; (exact oD); (intro _; exact hD); (exact (by simp)); (exact (by simp)); (first | exact ⟨by decide, by decide⟩ | skip); decide; (exact lD); (intro _; dsimp only [setD, z0, z1]); all_goals (try infer_instance)) | (apply WL.alloc; (first | exact tzV | exact tzC); (first | exact shape_X rfl | exact shape_XV | exact shape_C0 rfl); (intro _; dsimp only [setD, z0, z1])) | (apply WL.storeF; (exact tD); rfl; (exact oD); (exact hD); dsimp only [setD, z0, z1]) | ((first | apply WL.opN | apply WD.opN); (focus ((first | (refine SY.ixK (R := RV) (_gR := inferInstance) (k := 0) elV (OpD.t rfl) OpD.i hs1) | (refine SY.callO1 c3 bare_RV Tryz.call99 (OpD.t rfl) (ArgsD.cons (OpD.t rfl) ArgsD.nil) (CapH.map (.tail _ (.tail _ (.tail _ (.head _)))) (.tail _ (.tail _ (.head _))) fun _ _ _ => rfl)) | (refine SY.lookN2s mapT_num keyT_V (OpD.t rfl) (.tail _ (.head _)) (OpD.t rfl) ⟨fun _ _ _ h => h⟩ hro hno hnd hnl) | (refine SY.lookN mapT_num keyT_V (OpD.t rfl) (.tail _ (.head _)) (OpD.t rfl) ⟨fun _ _ _ h => h⟩ hro hno hnd hnl) | ((first | apply SY.move | apply SY.assign | apply SY.lss | apply SY.neq | apply SY.not) <;> (exact oD)) | ((first | apply SY.add) <;> first | exact oD | omega) | (apply SY.ix; (exact eD); (exact oD); (exact oD); exact kD) | (apply SY.extract; (exact oD); rfl) | fail); all_goals infer_instance)); dsimp only [setD, z0, z1]) | (apply WC.condD; (exact oD); all_goals (intro h; try exact xD)) | (apply WC.condNB; (exact oD); all_goals (intro h; try exact xD)) | refine WC.skip ?_ | refine WC.block ?_ | refine ThenD.n ?_)); all_goals (first | ((repeat clear hK); (repeat clear Kx))))
              (refine ⟨(k + 1, _) , ?_, by first | omega | (simp only; omega), by ((try simp only);  rw [compC_snoc hkl, hsame]), ?_⟩; rotate_left; ((try dsimp only [upds, z0, z1]); repeat (first | exact LeF.nil | refine LeF.co (k := ?_))); (try dsimp only))
              omega
            · rw [if_neg hin] at hnl
              have hnx := num_next hkl hin
              have hne : ∀ p ∈ numG 0 (distG ((rootsC l).take k)), p.1 ≠ rootC l l[k] := fun p hp hc => hin (by
                have := List.mem_map_of_mem (f := (·.1)) hp
                rw [numG_keys] at this
                exact hc ▸ this)
              have hlen : (((numG 0 (distG ((rootsC l).take k))).length : Nat) : Int) = (numC l l[k] : Int) := by rw [numG_len, num_at hkl, idx_none hin]
              have hput : putM (numG 0 (distG ((rootsC l).take k))) (rootC l l[k]) (((numG 0 (distG ((rootsC l).take k))).length : Nat) : Int) = numG 0 (distG ((rootsC l).take (k + 1))) := by rw [putM_new hne, hnx, hlen]
              have hnl2 : lookM (numG 0 (distG ((rootsC l).take (k + 1)))) (rootC l l[k]) = some (numC l l[k] : Int) := by
                rw [← hput, lookM_putM, if_pos rfl, hlen]
              have hnd2 := num_keys l (k + 1)
              have hno2 := num_ok hg.2.2.1 (k + 1)
              ((repeat' (first | ((first | apply WL.opN | apply WD.opN); exact yF; dsimp only [setD, z0, z1]) | refine WL.nil ?_ | refine WC.seqK fun Kx hK => ?_ | (refine hK _ _ ?_; clear hK) | refine WC.region ?_ |  (refine WL.perm (List.Perm.swap _ _ _) (WL.putMap (u := (((numG 0 (distG ((rootsC l).take k))).length : Nat) : Int)) mapT_num keyT_V (OpD.t rfl) (OpD.t rfl) ⟨fun _ _ _ h => h⟩ (OpD.t rfl) ⟨fun _ _ _ h => h⟩ hro hno hnd ?_); rw [hput]; refine WL.perm (List.Perm.swap _ _ _) ?_; dsimp only [setD]) | ((first | apply WL.pushK | apply WL.push1); (exact eD); exact OpD.t rfl; (exact oD); (intro _; exact hD); (exact (by simp)); (exact (by simp)); (first | exact ⟨by decide, by decide⟩ | skip); decide; (exact lD); (intro _; dsimp only [setD, z0, z1]); all_goals (try infer_instance)) | (apply WL.alloc; (first | exact tzV | exact tzC); (first | exact shape_X rfl | exact shape_XV | exact shape_C0 rfl); (intro _; dsimp only [setD, z0, z1])) | (apply WL.storeF; (exact tD); rfl; (exact oD); (exact hD); dsimp only [setD, z0, z1]) | ((first | apply WL.opN | apply WD.opN); (focus ((first | (refine SY.ixK (R := RV) (_gR := inferInstance) (k := 0) elV (OpD.t rfl) OpD.i hs1) | (refine SY.callO1 c3 bare_RV Tryz.call99 (OpD.t rfl) (ArgsD.cons (OpD.t rfl) ArgsD.nil) (CapH.map (.tail _ (.tail _ (.tail _ (.head _)))) (.tail _ (.tail _ (.head _))) fun _ _ _ => rfl)) | (refine SY.lookN2n mapT_num keyT_V (OpD.t rfl) (.tail _ (.head _)) (OpD.t rfl) ⟨fun _ _ _ h => h⟩ hro hno hnd hnl) | (refine SY.lenM mapT_num (OpD.t rfl) (.tail _ (.head _))) | (refine SY.lookN mapT_num keyT_V (OpD.t rfl) (.tail _ (.head _)) (OpD.t rfl) ⟨fun _ _ _ h => h⟩ hro hno2 hnd2 hnl2) | ((first | apply SY.move | apply SY.assign | apply SY.lss | apply SY.neq | apply SY.not) <;> (exact oD)) | ((first | apply SY.add) <;> first | exact oD | omega) | (apply SY.ix; (exact eD); (exact oD); (exact oD); exact kD) | (apply SY.extract; (exact oD); rfl) | fail); all_goals infer_instance)); dsimp only [setD, z0, z1]) | (apply WC.condD; (exact oD); all_goals (intro h; try exact xD)) | (apply WC.condNB; (exact oD); all_goals (intro h; try exact xD)) | refine WC.skip ?_ | refine WC.block ?_ | refine ThenD.n ?_)); all_goals (first | ((repeat clear hK); (repeat clear Kx))))
              (refine ⟨(k + 1, _) , ?_, by first | omega | (simp only; omega), by ((try simp only);  rw [compC_snoc hkl]), ?_⟩; rotate_left; ((try dsimp only [upds, z0, z1]); repeat (first | exact LeF.nil | refine LeF.co (k := ?_))); (try dsimp only))
              omega
          · ((repeat' (first | ((first | apply WL.opN | apply WD.opN); exact yF; dsimp only [setD, z0, z1]) | refine WL.nil ?_ | refine WC.seqK fun Kx hK => ?_ | (refine hK _ _ ?_; clear hK) | (refine Kont.skip ?_; clear hK) | refine WC.region ?_ | ((first | apply WL.opN | apply WD.opN); (focus ((first | ((first | apply SY.move | apply SY.assign | apply SY.lss | apply SY.neq | apply SY.not) <;> (exact oD)) | fail); all_goals infer_instance)); dsimp only [setD, z0, z1]) | (apply WC.condD; (exact oD); all_goals (intro h; try exact xD)) | refine WC.ret ?_ | refine WC.exit ?_)); all_goals (first | ((repeat clear hK); (repeat clear Kx))))
            rw [e]
            have : (compC l).take k = compC l := List.take_of_length_le (by unfold compC; rw [List.length_map]; omega)
            rw [this]
            (refine ⟨trivial, ⟨_, rfl, ?_⟩, _, rfl, ?_⟩ <;> exact fD)
  · have e : compP l = ([], chkC l) := by unfold compP; rw [if_pos h0]
    ((repeat' (first | ((first | apply WL.opN | apply WD.opN); exact yF; dsimp only [setD, z0, z1]) | refine WL.nil ?_ | refine WC.seqK fun Kx hK => ?_ | (refine hK _ _ ?_; clear hK) | refine WC.region ?_ | ((first | apply WL.opN | apply WD.opN); (focus ((first | (apply SY.call (check_p _) Tryz.call35; (exact aD)) | ((first | apply SY.move | apply SY.assign | apply SY.lss | apply SY.neq | apply SY.not) <;> (exact oD)) | (apply SY.box; (exact oD); (exact hD)) | fail); all_goals infer_instance)); dsimp only [setD, z0, z1]) | (apply WC.condN; (exact oD); all_goals (intro h; try exact xD)) | refine WC.ret ?_ | refine ThenD.r ?_)); all_goals (first | ((repeat clear hK); (repeat clear Kx))))
    all_goals (rw [e]; (refine ⟨trivial, ⟨_, rfl, ?_⟩, _, rfl, ?_⟩ <;> exact fD))
end Go.Proofs.YtjbepoofigokjaaGreat
namespace Go.Proofs.YtjbepoofigokjaaGreat
open Go.RowKit
set_option linter.unusedSimpArgs false

set_option maxHeartbeats 2000000
set_option maxRecDepth 100000
def powN (l : Cx) : Nat := (l.map fun s => 2 ^ s.length).sum
def freeK (l : Cx) : List Cl × Int := if chkC l ≠ 0 then ([], chkC l) else (pairsC l, 0)
def connC (l : Cx) : Bool := (compC l).all (fun n => decide (¬ 0 < n)) && decide (0 < (compC l).length)
def stepK (l : Cx) (x : Cl) : Cx × Int := if chkC l ≠ 0 then ([], chkC l) else if chkV x.1 ≠ 0 then ([], chkV x.1) else if chkV x.2 ≠ 0 then ([], chkV x.2) else if x ∉ pairsC l then ([], 6) else if 4096 < (leftC l x).length then ([], 5) else (leftC l x, 0)
end Go.Proofs.YtjbepoofigokjaaGreat
