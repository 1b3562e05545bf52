/-
  Part 28 of the texts that the claims of this seat lean on: walks of the program's functions by contracts over symbolic frames, and plain laws of what they compute. No condition.
-/
import Derived.Test.YtjbepoofigokjaaGreatVt22
import Derived.Test.YtjbepoofigokjaaGreatVt24
import Derived.Test.YtjbepoofigokjaaGreatVt27
set_option linter.unusedVariables false
set_option linter.unusedSimpArgs false
set_option linter.unusedSectionVars false
namespace Go.Proofs.YtjbepoofigokjaaGreat
def bumpM (m : CntM) (x : List Vx) : CntM := if (lookM m x).isSome then putM m x ((lookM m x).getD 0 + 1) else m
theorem bump_look (m : CntM) (x t : List Vx) : lookM (bumpM m x) t = (lookM m t).map fun n => if t = x then n + 1 else n := by
  unfold bumpM
  cases hx : lookM m x with
  | none =>
    rw [if_neg (by simp)]
    by_cases h : t = x
    · subst h; rw [hx]; rfl
    · simp only [if_neg h]
      cases lookM m t <;> rfl
  | some n =>
    rw [if_pos (by simp), lookM_putM]
    by_cases h : t = x
    · subst h; rw [if_pos rfl, hx]; simp
    · rw [if_neg h]
      simp only [if_neg h]
      cases lookM m t <;> rfl
theorem bumps_look : ∀ (o : Cx) (m : CntM) (t : List Vx), lookM (o.foldl bumpM m) t = (lookM m t).map fun n => n + (o.count t : Int)
  | [], m, t => by cases h : lookM m t <;> simp [h]
  | x :: o, m, t => by
    rw [List.foldl_cons, bumps_look o, bump_look]
    cases lookM m t with
    | none => rfl
    | some n =>
      simp only [Option.map_some]
      by_cases h : t = x
      · subst h; rw [if_pos rfl, List.count_cons_self]; congr 1; omega
      · rw [if_neg h, List.count_cons_of_ne (fun e => h e.symm)]
theorem bump_keys (m : CntM) (hn : (m.map (·.1)).Nodup) (x : List Vx) : ((bumpM m x).map (·.1)).Nodup ∧ ∀ u, u ∈ (bumpM m x).map (·.1) ↔ u ∈ m.map (·.1) := by
  unfold bumpM
  by_cases h : (lookM m x).isSome = true
  · rw [if_pos h]
    have hk := putM_keys (x := x) (v := (lookM m x).getD 0 + 1) hn
    refine ⟨hk.1, fun u => (hk.2 u).trans ⟨?_, .inr⟩⟩
    rintro (rfl | hu)
    · exact lookM_keys.1 h
    · exact hu
  · rw [if_neg h]
    exact ⟨hn, fun _ => Iff.rfl⟩
theorem bumps_keys : ∀ (o : Cx) (m : CntM), (m.map (·.1)).Nodup → ((o.foldl bumpM m).map (·.1)).Nodup ∧ ∀ u, u ∈ (o.foldl bumpM m).map (·.1) ↔ u ∈ m.map (·.1)
  | [], _, hn => ⟨hn, fun _ => Iff.rfl⟩
  | x :: o, m, hn => by
    obtain ⟨h1, h2⟩ := bump_keys m hn x
    obtain ⟨h3, h4⟩ := bumps_keys o _ h1
    exact ⟨h3, fun u => (h4 u).trans (h2 u)⟩
def zeroM (m : CntM) (x : List Vx) : CntM := putM m x 0
theorem zeros_look : ∀ (o : Cx) (m : CntM) (t : List Vx), lookM (o.foldl zeroM m) t = if t ∈ o then some 0 else lookM m t
  | [], m, t => by rw [if_neg (by simp)]; rfl
  | x :: o, m, t => by
    rw [List.foldl_cons, zeros_look o]
    by_cases h : t ∈ o
    · rw [if_pos h, if_pos (List.mem_cons_of_mem _ h)]
    · rw [if_neg h]
      unfold zeroM
      rw [lookM_putM]
      by_cases hx : t = x
      · rw [if_pos hx, if_pos (by rw [hx]; exact List.mem_cons_self ..)]
      · rw [if_neg hx, if_neg (by rw [List.mem_cons]; rintro (q | q); exact hx q; exact h q)]
theorem zeros_keys : ∀ (o : Cx) (m : CntM), (m.map (·.1)).Nodup → ((o.foldl zeroM m).map (·.1)).Nodup
  | [], _, hn => hn
  | _ :: o, _, hn => zeros_keys o _ (putM_keys hn).1
def offsV (s : List Vx) : Cx := if 1 < s.length then (List.range s.length).map (remV s) else []
def offsC (l : Cx) : Cx := l.flatMap offsV
def propV (s : List Vx) : Cx := (List.range (s.length - 1)).flatMap fun k => subsV (k + 1) s
def propC (l : Cx) : Cx := l.flatMap propV
def cntK (l : Cx) : CntM := (propC l).foldl bumpM ((offsC l).foldl zeroM [])
theorem cntK_look (l : Cx) (t : List Vx) : lookM (cntK l) t = if t ∈ offsC l then some ((propC l).count t : Int) else none := by
  unfold cntK
  rw [bumps_look, zeros_look]
  by_cases h : t ∈ offsC l
  · rw [if_pos h, if_pos h]; simp
  · rw [if_neg h, if_neg h]; rfl
theorem cntK_keys (l : Cx) : ((cntK l).map (·.1)).Nodup := (bumps_keys _ _ (zeros_keys _ [] (List.Pairwise.nil))).1
theorem remV_erase {s : List Vx} (i : Nat) : remV s i = s.eraseIdx i := by unfold remV; rw [List.eraseIdx_eq_take_drop_succ]
theorem remV_len {s : List Vx} {i : Nat} (h : i < s.length) : (remV s i).length = s.length - 1 := by rw [remV_erase, List.length_eraseIdx_of_lt h]
theorem remV_sub (s : List Vx) (i : Nat) : (remV s i).Sublist s := by rw [remV_erase]; exact List.eraseIdx_sublist ..
theorem count_prop {s : List Vx} (ha : Asc s) {t : List Vx} (h0 : 0 < t.length) (hl : t.length < s.length) : (propV s).count t = if t ∈ subsV t.length s then 1 else 0 := by
  unfold propV
  have go : ∀ n, ((List.range n).flatMap fun k => subsV (k + 1) s).count t = if t.length ≤ n then (if t ∈ subsV t.length s then 1 else 0) else 0 := by
    intro n
    induction n with
    | zero => rw [if_neg (by omega)]; rfl
    | succ n ih =>
      rw [List.range_succ, List.flatMap_append, List.count_append, ih]
      simp only [List.flatMap_cons, List.flatMap_nil, List.append_nil]
      rw [count_subs ha]
      have hz : t.length ≠ n + 1 → (if t ∈ subsV (n + 1) s then 1 else 0) = 0 := fun h => if_neg fun q => h ((subsV_mem _ _ _).1 q).2
      by_cases h1 : t.length ≤ n
      · rw [hz (by omega), if_pos h1, if_pos (show t.length ≤ n + 1 by omega), Nat.add_zero]
      · rw [if_neg h1]
        by_cases h2 : t.length = n + 1
        · rw [if_pos (show t.length ≤ n + 1 by omega), h2, Nat.zero_add]
        · rw [hz h2, if_neg (show ¬ t.length ≤ n + 1 by omega)]
  rw [go, if_pos (by omega)]
theorem count_flat (f : List Vx → Cx) (t : List Vx) : ∀ l : Cx, (l.flatMap f).count t = (l.map fun s => (f s).count t).sum
  | [] => rfl
  | s :: l => by rw [List.flatMap_cons, List.count_append, count_flat f t l, List.map_cons, List.sum_cons]
theorem sum_filter (p : List Vx → Bool) : ∀ l : Cx, (l.map fun s => if p s = true then 1 else 0).sum = (l.filter p).length
  | [] => rfl
  | s :: l => by
    rw [List.map_cons, List.sum_cons, sum_filter p l]
    by_cases h : p s = true
    · rw [if_pos h, List.filter_cons_of_pos h, List.length_cons]; omega
    · rw [if_neg h, List.filter_cons_of_neg h]; omega
theorem count_abv {l : Cx} (G : GoodX l) {t : List Vx} (ht : Asc t) (h0 : 0 < t.length) (hn : t ∉ l) : (propC l).count t = abvC l t := by
  unfold propC abvC
  rw [count_flat, ← sum_filter]
  congr 1
  refine List.map_congr_left fun s hs => ?_
  have ha := G.asc s hs
  have hi : t ∈ subsV t.length s ↔ insideV t s = true := by
    rw [subsV_mem]
    exact ⟨fun q => (sub_inside ht ha).1 q.1, fun q => ⟨(sub_inside ht ha).2 q, rfl⟩⟩
  by_cases hl : t.length < s.length
  · rw [count_prop ha h0 hl]
    simp only [hi]
  · have hno : ¬ insideV t s = true := fun q => by
      by_cases he : t = s
      · subst he; exact hn hs
      · exact hl (inside_lt ht ha q he)
    rw [if_neg hno]
    refine List.count_eq_zero.2 fun q => ?_
    unfold propV at q
    obtain ⟨k, hk, hm⟩ := List.mem_flatMap.1 q
    have h1 := List.mem_range.1 hk
    have h2 := ((subsV_mem _ _ _).1 hm).2
    omega
end Go.Proofs.YtjbepoofigokjaaGreat
namespace Go.Proofs.YtjbepoofigokjaaGreat
open Go.RowKit
set_option linter.unusedSimpArgs false

set_option maxHeartbeats 2000000
set_option maxRecDepth 100000
theorem FinD.mapI {hp : List HObj} {b : Nat} {K V : Type} {kv : K → Value} {vv : V → Value} {R : Rel V} {_gR : Good R} {M : List (K × V)} (hm : hM b kv vv M ∈ hp) (hvv : ∀ I w (y : V), R I w (vv y) y) :
    FinD hp (dX (.map (some b))) (dS (MapR kv R) M) := FinD.mk fun {P0 B w0 w u} hh hd => by
  have hb : w.heap[b]? = some (mapObj _) := hh.ok _ hm
  refine ⟨b, M.map fun p => vv p.2, hd, own_blocks hh hm rfl, by simp, ?_, fun k h1 h2 => ?_⟩
  · rw [hb]
    congr 2
    unfold encM
    rw [List.zip_map', List.map_map]
    rfl
  · simp only [List.getElem_map]
    exact hvv _ _ _
theorem mapT_cnt2 : MapT Tryz.prog 149 151 3 (.int .i64 0) := ⟨Tryz.underlying149, fun w => by kernel_rfl⟩
theorem tyCnt2 : TyI Tryz.prog 149 1 false := ⟨by kernel_rfl, Tryz.isAgg149⟩
theorem tzCnt2 : TyZ Tryz.prog 149 (.map none) := ⟨by kernel_rfl⟩
theorem SY.lookCntK {ops : Array Oper} {hp : List HObj} {fr : List Dat} {dst : Option Tmp} {ty : TypeId} {ps : String} {af : Array Edge} {g : Option (Nat × Bool)} {b : Nat} {M : CntM} {f : List Vx} {x y : Operand} (hx : OpD fr x (dX (.map (some b)))) (hm : hM b kvK vvI M ∈ hp) (hy : OpD fr y (dX (kvK f))) (hf : okK f) (ho : ∀ p ∈ M, okK p.1) (hn : (M.map (·.1)).Nodup) :
    SY Tryz.prog ops hp { dst := dst, op := .lookup 149 x y false, type := ty, pos := ps, after := af, guard := g } fr (dI ((Go.Proofs.YtjbepoofigokjaaGreat.lookM M f).getD 0)) := by
  have h := SY.lookM (dst := dst) (ty := ty) (ps := ps) (af := af) (g := g) (ops := ops) mapT_cnt2 keyT_K2 hx hm hy isX hf ho hn
  rw [look_cnt] at h
  exact h
theorem zeros_mem {o : Cx} : ∀ p ∈ o.foldl zeroM [], p.1 ∈ o := fun p hp => by
  have h := lookM_keys.2 (List.mem_map_of_mem (f := (·.1)) hp)
  rw [zeros_look] at h
  by_cases hx : p.1 ∈ o
  · exact hx
  · rw [if_neg hx] at h; cases h
theorem offs_snoc {l : Cx} {i : Nat} (h : i < l.length) : offsC (l.take (i + 1)) = offsC (l.take i) ++ offsV l[i] := by
  unfold offsC; rw [take_snoc' h, List.flatMap_append]; simp
theorem prop_snoc {l : Cx} {i : Nat} (h : i < l.length) : propC (l.take (i + 1)) = propC (l.take i) ++ propV l[i] := by
  unfold propC; rw [take_snoc' h, List.flatMap_append]; simp
theorem offs_chk {s : List Vx} (hs : chkV s = 0) : ∀ t ∈ offsV s, chkV t = 0 := fun t ht => by
  unfold offsV at ht
  split at ht
  · obtain ⟨i, hi, rfl⟩ := List.mem_map.1 ht
    have hi := List.mem_range.1 hi
    have hl := remV_len hi
    exact (face_good hs (k := s.length - 1) (by omega) ((subsV_mem _ _ _).2 ⟨remV_sub s i, hl⟩)).1
  · cases ht
theorem flat_le {α : Type} (f : α → Cx) (B : Nat) : ∀ l : List α, (∀ s ∈ l, (f s).length ≤ B) → (l.flatMap f).length ≤ B * l.length
  | [], _ => Nat.zero_le _
  | s :: l, h => by
    have h1 := h s (List.mem_cons_self ..)
    have h2 := flat_le f B l fun t ht => h t (List.mem_cons_of_mem _ ht)
    rw [List.flatMap_cons, List.length_append, List.length_cons, Nat.mul_succ]
    omega
theorem sub256 {s : List Vx} (h : s.length ≤ 8) (k : Nat) : (subsV k s).length ≤ 256 := Nat.le_trans (subsV_len _ _) (Nat.pow_le_pow_right (by decide) h : 2 ^ s.length ≤ 2 ^ 8)
theorem prop_len {s : List Vx} (h : s.length ≤ 8) : (propV s).length ≤ 2048 := by
  have h1 := flat_le (fun k => subsV (k + 1) s) 256 (List.range (s.length - 1)) fun k _ => sub256 h _
  rw [List.length_range] at h1
  unfold propV
  omega
theorem propC_len {l : Cx} (h : ∀ s ∈ l, s.length ≤ 8) : (propC l).length ≤ 2048 * l.length := flat_le propV 2048 l fun s hs => prop_len (h s hs)
set_option maxHeartbeats 8000000 in
theorem counts32_p (l : Cx) (G : GoodX l) : Fn Tryz.prog 117 [dS Cpx l] (dS (MapR kvK RI) (cntK l)) := by
  (refine Fn.intro1 Tryz.func117 rfl rfl ?_; simp only [Tryz.ntmps117, List.length_cons, List.length_nil, Nat.reduceAdd, Nat.reduceSub, List.replicate_succ, List.replicate_zero, List.cons_append, List.nil_append])
  (repeat' (first | ((first | apply WL.opN | apply WD.opN); exact yF; dsimp only [setD, z0, z1]) | refine WL.nil ?_ | refine WC.seqK fun Kx hK => ?_ | (refine hK _ _ ?_; clear hK) | refine WC.region ?_ |  (refine WL.makeMap kvK vvI fun b => ?_; dsimp only [setD, z0, z1]) | ((first | apply WL.opN | apply WD.opN); (focus ((first | (apply SY.len; (exact oD); (exact nD); (exact uD)) | (apply SY.fldC cpxT; exact OpD.t rfl) | (apply SY.box; (exact oD); (exact hD)) | fail); all_goals infer_instance)); dsimp only [setD, z0, z1]) | refine WC.block ?_))
  have hg : ∀ s ∈ l, chkV s = 0 := G.2.2.1
  have hll := G.1
  (refine WC.loopU (X := Nat) (fun i => [(20, dI (i : Int)), (5, dA), (6, dA), (21, dA), (22, dA), (23, dA), (24, dA), (25, dA), (26, dA), (27, dA), (28, dA), (29, dA), (30, dA), (31, dA), (32, dA), (33, dA), (34, dA), (35, dA), (36, dA), (37, dA), (38, dA)]) (fun i => [hM b kvK vvI ((offsC (l.take i)).foldl zeroM [])]) (fun i => l.length - i) (fun i => i ≤ l.length) 0 ?start ?frame0 ?objs0 ?round)
  case start => exact Nat.zero_le _
  case frame0 => ((try dsimp only [upds, z0, z1]); repeat (first | exact LeF.nil | refine LeF.co (k := ?_)))
  case objs0 => rfl
  case round =>
    rintro i h1
    dsimp only [upds, z0, z1]
    by_cases hi : i < l.length
    · have hgi := hg _ (List.getElem_mem hi)
      obtain ⟨p1, p2⟩ := chk_len hgi
      have hoc : ∀ t ∈ offsC (l.take i), chkV t = 0 := fun t ht => by
        obtain ⟨s, hs, ht⟩ := List.mem_flatMap.1 ht
        exact offs_chk (hg s (List.mem_of_mem_take hs)) t ht
      have e := offs_snoc hi
      (repeat' (first | ((first | apply WL.opN | apply WD.opN); exact yF; dsimp only [setD, z0, z1]) | refine WL.nil ?_ | refine WC.seqK fun Kx hK => ?_ | (refine hK _ _ ?_; clear hK) | refine WC.region ?_ | ((first | apply WL.opN | apply WD.opN); (focus ((first | ((first | apply SY.move | apply SY.assign | apply SY.lss | apply SY.gtr) <;> (exact oD)) | (apply SY.len; (exact oD); (exact nD); (exact uD)) | (apply SY.ix; (exact eD); (exact oD); (exact oD); exact kD) | fail); all_goals infer_instance)); dsimp only [setD, z0, z1]) | (apply WC.condD; (exact oD); all_goals (intro h; try exact xD)) | refine WC.skip ?_ | refine WC.block ?_))
      (refine WC.loopU (X := Nat) (fun j => [(26, dI (j : Int)), (6, dA), (27, dA), (28, dA), (29, dA), (30, dA), (31, dA), (32, dA), (33, dA), (34, dA), (35, dA), (36, dA), (37, dA)]) (fun j => [hM b kvK vvI ((offsC (l.take i) ++ (offsV l[i]).take j).foldl zeroM [])]) (fun j => l[i].length - j) (fun j => j ≤ l[i].length) 0 ?start ?frame0 ?objs0 ?round)
      case start => exact Nat.zero_le _
      case frame0 => ((try dsimp only [upds, z0, z1]); repeat (first | exact LeF.nil | refine LeF.co (k := ?_)))
      case objs0 => simp
      case round =>
        rintro j k1
        dsimp only [upds, z0, z1]
        by_cases hj : j < l[i].length
        · by_cases h2 : 1 < l[i].length
          · have c1 := without32_p l[i] j hj (by omega)
            have ho : offsV l[i] = (List.range l[i].length).map (remV l[i]) := if_pos h2
            have hjo : j < (offsV l[i]).length := by rw [ho, List.length_map, List.length_range]; exact hj
            have hat : (offsV l[i])[j] = remV l[i] j := by simp only [ho, List.getElem_map, List.getElem_range]
            have hck := offs_chk hgi _ (List.getElem_mem hjo)
            rw [hat] at hck
            have c2 := of32_p (remV l[i] j) (chk_len hck).2
            have hok : ∀ p ∈ (offsC (l.take i) ++ (offsV l[i]).take j).foldl zeroM [], okK p.1 := fun p hp => ok_key (by
              rcases List.mem_append.1 (zeros_mem p hp) with q | q
              · exact hoc _ q
              · exact offs_chk hgi _ (List.mem_of_mem_take q))
            have hn : (((offsC (l.take i) ++ (offsV l[i]).take j).foldl zeroM []).map (·.1)).Nodup := zeros_keys _ _ List.Pairwise.nil
            have e2 : (offsC (l.take i) ++ (offsV l[i]).take (j + 1)).foldl zeroM [] = putM ((offsC (l.take i) ++ (offsV l[i]).take j).foldl zeroM []) (remV l[i] j) 0 := by
              rw [take_snoc' hjo, ← List.append_assoc, List.foldl_append, hat]; rfl
            generalize (offsC (l.take i) ++ (offsV l[i]).take j).foldl zeroM [] = M at *
            ((repeat' (first | ((first | apply WL.opN | apply WD.opN); exact yF; dsimp only [setD, z0, z1]) | refine WL.nil ?_ | refine WC.seqK fun Kx hK => ?_ | (refine hK _ _ ?_; clear hK) | refine WC.region ?_ |  (refine WL.putMap (u := (0 : Int)) mapT_cnt2 keyT_K2 (OpD.t rfl) (OpD.t rfl) isX OpD.i ⟨fun _ _ _ h => h⟩ (ok_key hck) hok hn ?_; dsimp only [setD, z0, z1]) | ((first | apply WL.opN | apply WD.opN); (focus ((first | (apply SY.call (c1) Tryz.call90; (exact aD)) | (apply SY.call (c2) Tryz.call119; (exact aD)) | ((first | apply SY.move | apply SY.assign | apply SY.lss | apply SY.gtr) <;> (exact oD)) | ((first | apply SY.add) <;> first | exact oD | omega) | (apply SY.len; (exact oD); (exact nD); (exact uD)) | fail); all_goals infer_instance)); dsimp only [setD, z0, z1]) | (apply WC.condD; (exact oD); all_goals (intro h; try exact xD)) | refine WC.skip ?_ | refine WC.block ?_ | refine ThenD.n ?_)); all_goals (first | ((repeat clear hK); (repeat clear Kx))))
            all_goals first | (exfalso; omega) | skip
            (refine ⟨j + 1 , ?_, by first | omega | (simp only; omega), by ((try simp only);  rw [e2]), ?_⟩; rotate_left; ((try dsimp only [upds, z0, z1]); repeat (first | exact LeF.nil | refine LeF.co (k := ?_))); (try dsimp only))
            omega
          · have ho : offsV l[i] = [] := if_neg h2
            ((repeat' (first | ((first | apply WL.opN | apply WD.opN); exact yF; dsimp only [setD, z0, z1]) | refine WL.nil ?_ | refine WC.seqK fun Kx hK => ?_ | (refine hK _ _ ?_; clear hK) | refine WC.region ?_ | ((first | apply WL.opN | apply WD.opN); (focus ((first | ((first | apply SY.move | apply SY.assign | apply SY.lss | apply SY.gtr) <;> (exact oD)) | ((first | apply SY.add) <;> first | exact oD | omega) | (apply SY.len; (exact oD); (exact nD); (exact uD)) | fail); all_goals infer_instance)); dsimp only [setD, z0, z1]) | (apply WC.condD; (exact oD); all_goals (intro h; try exact xD)) | refine WC.skip ?_ | refine WC.block ?_ | refine ThenD.n ?_)); all_goals (first | ((repeat clear hK); (repeat clear Kx))))
            all_goals first | (exfalso; omega) | skip
            (refine ⟨j + 1 , ?_, by first | omega | (simp only; omega), by ((try simp only);  rw [ho, List.take_nil, List.take_nil]), ?_⟩; rotate_left; ((try dsimp only [upds, z0, z1]); repeat (first | exact LeF.nil | refine LeF.co (k := ?_))); (try dsimp only))
            omega
        · have ht : (offsV l[i]).take j = offsV l[i] := List.take_of_length_le (by
            unfold offsV
            split
            · rw [List.length_map, List.length_range]; omega
            · exact Nat.zero_le _)
          ((repeat' (first | ((first | apply WL.opN | apply WD.opN); exact yF; dsimp only [setD, z0, z1]) | refine WL.nil ?_ | refine WC.seqK fun Kx hK => ?_ | (refine hK _ _ ?_; clear hK) | (refine Kont.skip ?_; clear hK) | refine WC.region ?_ | ((first | apply WL.opN | apply WD.opN); (focus ((first | ((first | apply SY.move | apply SY.assign | apply SY.lss | apply SY.gtr) <;> (exact oD)) | ((first | apply SY.add) <;> first | exact oD | omega) | fail); all_goals infer_instance)); dsimp only [setD, z0, z1]) | (apply WC.condD; (exact oD); all_goals (intro h; try exact xD)) | refine WC.exit ?_ | refine ThenD.n ?_)); all_goals (first | ((repeat clear hK); (repeat clear Kx))))
          (refine ⟨i + 1 , ?_, by first | omega | (simp only; omega), by ((try simp only);  rw [e, ht]), ?_⟩; rotate_left; ((try dsimp only [upds, z0, z1]); repeat (first | exact LeF.nil | refine LeF.co (k := ?_))); (try dsimp only))
          omega
    · rw [List.take_of_length_le (by omega)]
      have hoc : ∀ t ∈ offsC l, chkV t = 0 := fun t ht => by
        obtain ⟨s, hs, ht⟩ := List.mem_flatMap.1 ht
        exact offs_chk (hg s hs) t ht
      have hn0 : (((offsC l).foldl zeroM []).map (·.1)).Nodup := zeros_keys _ _ List.Pairwise.nil
      have hok0 : ∀ (o : Cx), ∀ p ∈ o.foldl bumpM ((offsC l).foldl zeroM []), okK p.1 := fun o p hp => by
        have h1 := ((bumps_keys o _ hn0).2 p.1).1 (List.mem_map_of_mem hp)
        obtain ⟨q, hq, hqe⟩ := List.mem_map.1 h1
        rw [← hqe]
        exact ok_key (hoc _ (zeros_mem q hq))
      have hlk0 : ∀ (o : Cx) (x : List Vx), (lookM (o.foldl bumpM ((offsC l).foldl zeroM [])) x).getD 0 ≤ o.length ∧ 0 ≤ (lookM (o.foldl bumpM ((offsC l).foldl zeroM [])) x).getD 0 := fun o x => by
        have hcl := List.count_le_length (a := x) (l := o)
        rw [bumps_look, zeros_look]
        by_cases hx : x ∈ offsC l
        · rw [if_pos hx]; simp; omega
        · rw [if_neg hx]; simp [lookM]
      have hcK : cntK l = (propC l).foldl bumpM ((offsC l).foldl zeroM []) := rfl
      generalize (offsC l).foldl zeroM [] = M0 at *
      have hn8 : ∀ s ∈ l, s.length ≤ 8 := fun s hs => (chk_len (hg s hs)).2
      (repeat' (first | ((first | apply WL.opN | apply WD.opN); exact yF; dsimp only [setD, z0, z1]) | refine WL.nil ?_ | refine WC.seqK fun Kx hK => ?_ | (refine hK _ _ ?_; clear hK) | (refine Kont.skip ?_; clear hK) | refine WC.region ?_ | ((first | apply WL.opN | apply WD.opN); (focus ((first | ((first | apply SY.move | apply SY.assign | apply SY.lss | apply SY.gtr) <;> (exact oD)) | (apply SY.len; (exact oD); (exact nD); (exact uD)) | (apply SY.fldC cpxT; exact OpD.t rfl) | fail); all_goals infer_instance)); dsimp only [setD, z0, z1]) | (apply WC.condD; (exact oD); all_goals (intro h; try exact xD)) | refine WC.exit ?_ | refine WC.block ?_))
      (refine WC.loopU (X := Nat) (fun i => [(42, dI (i : Int)), (8, dA), (9, dA), (10, dA), (11, dA), (13, dA), (14, dA), (15, dA), (43, dA), (44, dA), (45, dA), (46, dA), (47, dA), (48, dA), (49, dA), (50, dA), (51, dA), (52, dA), (53, dA), (54, dA), (55, dA), (56, dA), (57, dA), (58, dA), (59, dA), (60, dA), (61, dA), (62, dA), (63, dA), (64, dA), (65, dA), (66, dA), (67, dA), (68, dA), (69, dA), (70, dA), (71, dA), (72, dA), (73, dA), (74, dA), (75, dA), (76, dA), (77, dA), (78, dA), (79, dA), (80, dA)]) (fun i => [hM b kvK vvI ((propC (l.take i)).foldl bumpM M0)]) (fun i => l.length - i) (fun i => i ≤ l.length) 0 ?start ?frame0 ?objs0 ?round)
      case start => exact Nat.zero_le _
      case frame0 => ((try dsimp only [upds, z0, z1]); repeat (first | exact LeF.nil | refine LeF.co (k := ?_)))
      case objs0 => rfl
      case round =>
        rintro i h1
        dsimp only [upds, z0, z1]
        by_cases hi : i < l.length
        · have hgi := hg _ (List.getElem_mem hi)
          obtain ⟨p1, p2⟩ := chk_len hgi
          have e := prop_snoc hi
          have hpl := propC_len (l := l.take i) fun s hs => hn8 s (List.mem_of_mem_take hs)
          rw [List.length_take] at hpl
          (repeat' (first | ((first | apply WL.opN | apply WD.opN); exact yF; dsimp only [setD, z0, z1]) | refine WL.nil ?_ | refine WC.seqK fun Kx hK => ?_ | (refine hK _ _ ?_; clear hK) | refine WC.region ?_ | ((first | apply WL.opN | apply WD.opN); (focus ((first | ((first | apply SY.move | apply SY.assign | apply SY.lss | apply SY.gtr) <;> (exact oD)) | (apply SY.ix; (exact eD); (exact oD); (exact oD); exact kD) | fail); all_goals infer_instance)); dsimp only [setD, z0, z1]) | (apply WC.condD; (exact oD); all_goals (intro h; try exact xD)) | refine WC.skip ?_ | refine WC.block ?_))
          (refine WC.loopU (X := Nat) (fun k => [(9, dI ((k + 1 : Nat) : Int)), (10, dA), (11, dA), (13, dA), (14, dA), (15, dA), (46, dA), (47, dA), (48, dA), (49, dA), (50, dA), (51, dA), (52, dA), (53, dA), (54, dA), (55, dA), (56, dA), (57, dA), (58, dA), (59, dA), (60, dA), (61, dA), (62, dA), (63, dA), (64, dA), (65, dA), (66, dA), (67, dA), (68, dA), (69, dA), (70, dA), (71, dA), (72, dA), (73, dA), (74, dA), (75, dA), (76, dA), (77, dA), (78, dA), (79, dA)]) (fun k => [hM b kvK vvI ((propC (l.take i) ++ (List.range k).flatMap (fun k => subsV (k + 1) l[i])).foldl bumpM M0)]) (fun k => l[i].length - k) (fun k => k ≤ l[i].length - 1) 0 ?start ?frame0 ?objs0 ?round)
          case start => exact Nat.zero_le _
          case frame0 => ((try dsimp only [upds, z0, z1]); repeat (first | exact LeF.nil | refine LeF.co (k := ?_)))
          case objs0 => simp
          case round =>
            rintro k k1
            dsimp only [upds, z0, z1]
            by_cases hk : k < l[i].length - 1
            · have hF : Fn Tryz.prog 114 [dS Verts l[i], dI ((k + 1 : Nat) : Int)] (dT [dS Simps (subsV (k + 1) l[i]), dI 0]) := by
                have := facesP_p l[i] ((k + 1 : Nat) : Int)
                rwa [facesV_good hgi (by omega) (by omega)] at this
              have hTl := sub256 p2 (k + 1)
              have hTc : ∀ t ∈ subsV (k + 1) l[i], chkV t = 0 := fun t ht => (face_good hgi (by omega) ht).1
              have hpk := flat_le (fun k => subsV (k + 1) l[i]) 256 (List.range k) fun k _ => sub256 p2 _
              rw [List.length_range] at hpk
              have ek : (List.range (k + 1)).flatMap (fun k => subsV (k + 1) l[i]) = (List.range k).flatMap (fun k => subsV (k + 1) l[i]) ++ subsV (k + 1) l[i] := by
                rw [List.range_succ, List.flatMap_append]; simp
              generalize (List.range k).flatMap (fun k => subsV (k + 1) l[i]) = PK at *
              generalize propC (l.take i) = PC at *
              generalize subsV (k + 1) l[i] = T at *
              (repeat' (first | ((first | apply WL.opN | apply WD.opN); exact yF; dsimp only [setD, z0, z1]) | refine WL.nil ?_ | refine WC.seqK fun Kx hK => ?_ | (refine hK _ _ ?_; clear hK) | refine WC.region ?_ | ((first | apply WL.opN | apply WD.opN); (focus ((first | (apply SY.call (hF) Tryz.call114; (exact aD)) | ((first | apply SY.move | apply SY.assign | apply SY.lss | apply SY.gtr) <;> (exact oD)) | (apply SY.len; (exact oD); (exact nD); (exact uD)) | (apply SY.extract; (exact oD); rfl) | fail); all_goals infer_instance)); dsimp only [setD, z0, z1]) | (apply WC.condD; (exact oD); all_goals (intro h; try exact xD)) | refine WC.skip ?_ | refine WC.block ?_))
              all_goals first | (exfalso; omega) | skip
              (refine WC.loopU (X := Nat) (fun j => [(60, dI (j : Int)), (13, dA), (14, dA), (15, dA), (61, dA), (62, dA), (63, dA), (64, dA), (65, dA), (66, dA), (67, dA), (68, dA), (69, dA), (70, dA), (71, dA), (72, dA), (73, dA), (74, dA), (75, dA), (76, dA), (77, dA), (78, dA), (79, dA)]) (fun j => [hM b kvK vvI ((PC ++ PK ++ T.take j).foldl bumpM M0)]) (fun j => T.length - j) (fun j => j ≤ T.length) 0 ?start ?frame0 ?objs0 ?round)
              case start => exact Nat.zero_le _
              case frame0 => ((try dsimp only [upds, z0, z1]); repeat (first | exact LeF.nil | refine LeF.co (k := ?_)))
              case objs0 => simp
              case round =>
                rintro j q1
                dsimp only [upds, z0, z1]
                by_cases hj : j < T.length
                · have hx := hTc _ (List.getElem_mem hj)
                  have c2 := of32_p T[j] (chk_len hx).2
                  have hn := (bumps_keys (PC ++ PK ++ T.take j) M0 hn0).1
                  have hok := hok0 (PC ++ PK ++ T.take j)
                  have hlk := hlk0 (PC ++ PK ++ T.take j) T[j]
                  rw [List.length_append, List.length_append, List.length_take] at hlk
                  have ej : (PC ++ PK ++ T.take (j + 1)).foldl bumpM M0 = bumpM ((PC ++ PK ++ T.take j).foldl bumpM M0) T[j] := by
                    rw [take_snoc' hj, ← List.append_assoc, List.foldl_append]; rfl
                  generalize (PC ++ PK ++ T.take j).foldl bumpM M0 = M at *
                  cases hs : (lookM M T[j]).isSome with
                  | true =>
                    obtain ⟨q, hq, hqv⟩ : ∃ (q : Nat) (h : q < M.length), M[q].1 = T[j] := by
                      obtain ⟨p, hp, hpv⟩ := List.mem_map.1 (lookM_keys.1 hs)
                      obtain ⟨q, hq, rfl⟩ := List.getElem_of_mem hp
                      exact ⟨q, hq, hpv⟩
                    ((repeat' (first |  (refine WC.drawM (fun hp' => hM b kvK vvI M ∈ hp') 7 1 [(0, false), (1, false), (2, false), (3, false), (4, false), (5, true), (6, false)] [true, true, true, true, true, true, true, false] (by kernel_rfl) (by kernel_rfl) (by kernel_rfl) rfl (.head _) ?_) |  (first | refine WA.one (S := [true, true, true, true, true, true, true, false]) (i := 7) (by kernel_rfl) rfl ?_ | refine WA.nil (S := [true, true, true, true, true, true, true, true]) (by kernel_rfl) ?_) |  (refine WM.writeL rfl (SW.entOld mapT_cnt2 keyT_K2 (OpD.t rfl) (OpD.t rfl) isX (ok_key hx) hok hn hq hqv (0 : Int) rfl) (fun _ => .head _) fun _ => ?_; dsimp only [setD, z0, z1, List.cons_append, List.nil_append]) | (refine WM.nil ?_) | (apply WM.readL rfl; (focus (intro c hcc; apply SYG.yes; (exact want_none rfl); ((first | (apply SY.call (c2) Tryz.call119; (exact aD)) | (refine SY.lookCntK (OpD.t rfl) hcc (OpD.t rfl) (ok_key hx) hok hn) | ((first | apply SY.move | apply SY.assign | apply SY.lss | apply SY.gtr) <;> (exact oD)) | ((first | apply SY.add) <;> first | exact oD | omega) | (apply SY.extract; (exact oD); rfl) | fail); all_goals infer_instance))); dsimp only [setD, z0, z1]) | ((first | apply WL.opN | apply WD.opN); exact yF; dsimp only [setD, z0, z1]) | refine WL.nil ?_ | refine WC.seqK fun Kx hK => ?_ | (refine hK _ _ ?_; clear hK) | refine WC.region ?_ |  (refine WL.entS (u := (lookM M T[j]).getD 0 + 1) (OpD.t rfl) (OpD.t rfl) (OpD.t rfl) ⟨fun _ _ _ h => h⟩ hq ?_; dsimp only [setD]) | ((first | apply WL.opN | apply WD.opN); (focus ((first | (apply SY.call (c2) Tryz.call119; (exact aD)) | (refine SY.lookM2 (v := T[j]) mapT_cnt2 keyT_K2 (OpD.t rfl) (.head _) (OpD.t rfl) isX (ok_key hx) hok hn) | ((first | apply SY.move | apply SY.assign | apply SY.lss | apply SY.gtr) <;> (exact oD)) | ((first | apply SY.add) <;> first | exact oD | omega) | (apply SY.ix; (exact eD); (exact oD); (exact oD); exact kD) | (apply SY.extract; (exact oD); rfl) | fail); all_goals infer_instance)); dsimp only [setD, z0, z1]) | (apply WC.condD; (exact oD); all_goals (intro h; try exact xD)) | (apply WC.cond; (exact oD); all_goals (intro h; try exact xD)) | refine WC.skip ?_ | refine WC.block ?_ | refine ThenD.n ?_)); all_goals (first | ((repeat clear hK); (repeat clear Kx))))
                    all_goals first | (exfalso; omega) | (exfalso; rw [hs] at h; cases h; done) | skip
                    refine ⟨j + 1, ?_, by omega, by rw [ej, show bumpM M T[j] = putM M T[j] ((lookM M T[j]).getD 0 + 1) from if_pos hs, ← hqv, putM_set hn hq], ?_⟩
                    rotate_left
                    · ((try dsimp only [upds, z0, z1]); repeat (first | exact LeF.nil | refine LeF.co (k := ?_)))
                    · omega
                  | false =>
                    rw [show bumpM M T[j] = M from by unfold bumpM; rw [hs]; rfl] at ej
                    ((repeat' (first | ((first | apply WL.opN | apply WD.opN); exact yF; dsimp only [setD, z0, z1]) | refine WL.nil ?_ | refine WC.seqK fun Kx hK => ?_ | (refine hK _ _ ?_; clear hK) | refine WC.region ?_ | (apply WC.draw; kernel_rfl; kernel_rfl) | ((first | apply WL.opN | apply WD.opN); (focus ((first | (apply SY.call (c2) Tryz.call119; (exact aD)) | (refine SY.lookM2 (v := T[j]) mapT_cnt2 keyT_K2 (OpD.t rfl) (.head _) (OpD.t rfl) isX (ok_key hx) hok hn) | ((first | apply SY.move | apply SY.assign | apply SY.lss | apply SY.gtr) <;> (exact oD)) | ((first | apply SY.add) <;> first | exact oD | omega) | (apply SY.ix; (exact eD); (exact oD); (exact oD); exact kD) | (apply SY.extract; (exact oD); rfl) | fail); all_goals infer_instance)); dsimp only [setD, z0, z1]) | (apply WC.condD; (exact oD); all_goals (intro h; try exact xD)) | (apply WC.cond; (exact oD); all_goals (intro h; try exact xD)) | refine WC.skip ?_ | refine WC.block ?_ | refine ThenD.n ?_)); all_goals (first | ((repeat clear hK); (repeat clear Kx))))
                    all_goals first | (exfalso; omega) | (exfalso; rw [hs] at h; cases h; done) | skip
                    (refine ⟨j + 1 , ?_, by first | omega | (simp only; omega), by ((try simp only);  rw [ej]), ?_⟩; rotate_left; ((try dsimp only [upds, z0, z1]); repeat (first | exact LeF.nil | refine LeF.co (k := ?_))); (try dsimp only))
                    omega
                · rw [List.take_of_length_le (by omega)]
                  ((repeat' (first | ((first | apply WL.opN | apply WD.opN); exact yF; dsimp only [setD, z0, z1]) | refine WL.nil ?_ | refine WC.seqK fun Kx hK => ?_ | (refine hK _ _ ?_; clear hK) | (refine Kont.skip ?_; clear hK) | refine WC.region ?_ | ((first | apply WL.opN | apply WD.opN); (focus ((first | ((first | apply SY.move | apply SY.assign | apply SY.lss | apply SY.gtr) <;> (exact oD)) | ((first | apply SY.add) <;> first | exact oD | omega) | fail); all_goals infer_instance)); dsimp only [setD, z0, z1]) | (apply WC.condD; (exact oD); all_goals (intro h; try exact xD)) | refine WC.exit ?_ | refine ThenD.n ?_)); all_goals (first | ((repeat clear hK); (repeat clear Kx))))
                  (refine ⟨k + 1 , ?_, by first | omega | (simp only; omega), by ((try simp only);  rw [ek, List.append_assoc]), ?_⟩; rotate_left; ((try dsimp only [upds, z0, z1]); repeat (first | exact LeF.nil | refine LeF.co (k := ?_))); (try dsimp only))
                  omega
            · have hke : k = l[i].length - 1 := by omega
              subst hke
              ((repeat' (first | ((first | apply WL.opN | apply WD.opN); exact yF; dsimp only [setD, z0, z1]) | refine WL.nil ?_ | refine WC.seqK fun Kx hK => ?_ | (refine hK _ _ ?_; clear hK) | (refine Kont.skip ?_; clear hK) | refine WC.region ?_ | ((first | apply WL.opN | apply WD.opN); (focus ((first | ((first | apply SY.move | apply SY.assign | apply SY.lss | apply SY.gtr) <;> (exact oD)) | ((first | apply SY.add) <;> first | exact oD | omega) | (apply SY.len; (exact oD); (exact nD); (exact uD)) | fail); all_goals infer_instance)); dsimp only [setD, z0, z1]) | (apply WC.condD; (exact oD); all_goals (intro h; try exact xD)) | refine WC.exit ?_ | refine ThenD.n ?_)); all_goals (first | ((repeat clear hK); (repeat clear Kx))))
              all_goals first | (exfalso; omega) | skip
              (refine ⟨i + 1 , ?_, by first | omega | (simp only; omega), by ((try simp only);  rw [e]; rfl), ?_⟩; rotate_left; ((try dsimp only [upds, z0, z1]); repeat (first | exact LeF.nil | refine LeF.co (k := ?_))); (try dsimp only))
              omega
        · rw [List.take_of_length_le (by omega), ← hcK]
          ((repeat' (first | ((first | apply WL.opN | apply WD.opN); exact yF; dsimp only [setD, z0, z1]) | refine WL.nil ?_ | refine WC.seqK fun Kx hK => ?_ | (refine hK _ _ ?_; clear hK) | (refine Kont.skip ?_; clear hK) | refine WC.region ?_ | ((first | apply WL.opN | apply WD.opN); (focus ((first | ((first | apply SY.move | apply SY.assign | apply SY.lss | apply SY.gtr) <;> (exact oD)) | fail); all_goals infer_instance)); dsimp only [setD, z0, z1]) | (apply WC.condD; (exact oD); all_goals (intro h; try exact xD)) | refine WC.ret ?_ | refine WC.exit ?_)); all_goals (first | ((repeat clear hK); (repeat clear Kx))))
          refine ⟨trivial, _, rfl, ?_⟩
          exact FinD.mapI (_gR := inferInstance) (.head _) (fun _ _ _ => rfl)
end Go.Proofs.YtjbepoofigokjaaGreat
