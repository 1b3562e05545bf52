/-
  Part 33 of the texts that the claims of this seat lean on: walks of the program's functions by contracts over symbolic frames, and plain laws of what they compute. No condition.
-/
import Derived.Test.YtjbepoofigokjaaGreatVc24
import Derived.Test.YtjbepoofigokjaaGreatVc32
set_option linter.unusedVariables false
set_option linter.unusedSimpArgs false
set_option linter.unusedSectionVars false
namespace Go.Proofs.YtjbepoofigokjaaGreat
open Go.RowKit
set_option linter.unusedSimpArgs false

set_option maxHeartbeats 2000000
set_option maxRecDepth 100000
theorem FinD.mapI {hp : List HObj} {b : Nat} {K V : Type} {kv : K → Value} {vv : V → Value} {R : Rel V} {_gR : Good R} {M : List (K × V)} (hm : hM b kv vv M ∈ hp) (hvv : ∀ I w (y : V), R I w (vv y) y) :
    FinD hp (dX (.map (some b))) (dS (MapR kv R) M) := FinD.mk fun {P0 B w0 w u} hh hd => by
  have hb : w.heap[b]? = some (mapObj _) := hh.ok _ hm
  refine ⟨b, M.map fun p => vv p.2, hd, own_blocks hh hm rfl, by simp, ?_, fun k h1 h2 => ?_⟩
  · rw [hb]
    congr 2
    unfold encM
    rw [List.zip_map', List.map_map]
    rfl
  · simp only [List.getElem_map]
    exact hvv _ _ _
theorem mapT_cnt2 : MapT Tryz.prog 149 151 3 (.int .i64 0) := ⟨Tryz.underlying149, fun w => by kernel_rfl⟩
theorem tyCnt2 : TyI Tryz.prog 149 1 false := ⟨by kernel_rfl, Tryz.isAgg149⟩
theorem tzCnt2 : TyZ Tryz.prog 149 (.map none) := ⟨by kernel_rfl⟩
theorem SY.lookCntK {ops : Array Oper} {hp : List HObj} {fr : List Dat} {dst : Option Tmp} {ty : TypeId} {ps : String} {af : Array Edge} {g : Option (Nat × Bool)} {b : Nat} {M : CntM} {f : List Vx} {x y : Operand} (hx : OpD fr x (dX (.map (some b)))) (hm : hM b kvK vvI M ∈ hp) (hy : OpD fr y (dX (kvK f))) (hf : okK f) (ho : ∀ p ∈ M, okK p.1) (hn : (M.map (·.1)).Nodup) :
    SY Tryz.prog ops hp { dst := dst, op := .lookup 149 x y false, type := ty, pos := ps, after := af, guard := g } fr (dI ((Go.Proofs.YtjbepoofigokjaaGreat.lookM M f).getD 0)) := by
  have h := SY.lookM (dst := dst) (ty := ty) (ps := ps) (af := af) (g := g) (ops := ops) mapT_cnt2 keyT_K2 hx hm hy isX hf ho hn
  rw [look_cnt] at h
  exact h
theorem zeros_mem {o : Cx} : ∀ p ∈ o.foldl zeroM [], p.1 ∈ o := fun p hp => by
  have h := lookM_keys.2 (List.mem_map_of_mem (f := (·.1)) hp)
  rw [zeros_look] at h
  by_cases hx : p.1 ∈ o
  · exact hx
  · rw [if_neg hx] at h; cases h
theorem offs_snoc {l : Cx} {i : Nat} (h : i < l.length) : offsC (l.take (i + 1)) = offsC (l.take i) ++ offsV l[i] := by
  unfold offsC; rw [take_snoc' h, List.flatMap_append]; simp
theorem prop_snoc {l : Cx} {i : Nat} (h : i < l.length) : propC (l.take (i + 1)) = propC (l.take i) ++ propV l[i] := by
  unfold propC; rw [take_snoc' h, List.flatMap_append]; simp
theorem offs_chk {s : List Vx} (hs : chkV s = 0) : ∀ t ∈ offsV s, chkV t = 0 := fun t ht => by
  unfold offsV at ht
  split at ht
  · obtain ⟨i, hi, rfl⟩ := List.mem_map.1 ht
    have hi := List.mem_range.1 hi
    have hl := remV_len hi
    exact (face_good hs (k := s.length - 1) (by omega) ((subsV_mem _ _ _).2 ⟨remV_sub s i, hl⟩)).1
  · cases ht
theorem flat_le {α : Type} (f : α → Cx) (B : Nat) : ∀ l : List α, (∀ s ∈ l, (f s).length ≤ B) → (l.flatMap f).length ≤ B * l.length
  | [], _ => Nat.zero_le _
  | s :: l, h => by
    have h1 := h s (List.mem_cons_self ..)
    have h2 := flat_le f B l fun t ht => h t (List.mem_cons_of_mem _ ht)
    rw [List.flatMap_cons, List.length_append, List.length_cons, Nat.mul_succ]
    omega
theorem sub256 {s : List Vx} (h : s.length ≤ 8) (k : Nat) : (subsV k s).length ≤ 256 := Nat.le_trans (subsV_len _ _) (Nat.pow_le_pow_right (by decide) h : 2 ^ s.length ≤ 2 ^ 8)
theorem prop_len {s : List Vx} (h : s.length ≤ 8) : (propV s).length ≤ 2048 := by
  have h1 := flat_le (fun k => subsV (k + 1) s) 256 (List.range (s.length - 1)) fun k _ => sub256 h _
  rw [List.length_range] at h1
  unfold propV
  omega
theorem propC_len {l : Cx} (h : ∀ s ∈ l, s.length ≤ 8) : (propC l).length ≤ 2048 * l.length := flat_le propV 2048 l fun s hs => prop_len (h s hs)
set_option maxHeartbeats 8000000 in
theorem counts32_p (l : Cx) (G : GoodX l) : Fn Tryz.prog 117 [dS Cpx l] (dS (MapR kvK RI) (cntK l)) := by
  (refine Fn.intro1 Tryz.func117 rfl rfl ?_; simp only [Tryz.ntmps117, List.length_cons, List.length_nil, Nat.reduceAdd, Nat.reduceSub, List.replicate_succ, List.replicate_zero, List.cons_append, List.nil_append])
  (repeat' (first | ((first | apply WL.opN | apply WD.opN); exact yF; dsimp only [setD, z0, z1]) | refine WL.nil ?_ | refine WC.seqK fun Kx hK => ?_ | (refine hK _ _ ?_; clear hK) | refine WC.region ?_ |  (refine WL.makeMap kvK vvI fun b => ?_; dsimp only [setD, z0, z1]) | ((first | apply WL.opN | apply WD.opN); (focus ((first | (apply SY.len; (exact oD); (exact nD); (exact uD)) | (apply SY.fldC cpxT; exact OpD.t rfl) | (apply SY.box; (exact oD); (exact hD)) | fail); all_goals infer_instance)); dsimp only [setD, z0, z1]) | refine WC.block ?_))
  have hg : ∀ s ∈ l, chkV s = 0 := G.2.2.1
  have hll := G.1
  (refine WC.loopU (X := Nat) (fun i => [(20, dI (i : Int)), (5, dA), (6, dA), (21, dA), (22, dA), (23, dA), (24, dA), (25, dA), (26, dA), (27, dA), (28, dA), (29, dA), (30, dA), (31, dA), (32, dA), (33, dA), (34, dA), (35, dA), (36, dA), (37, dA), (38, dA)]) (fun i => [hM b kvK vvI ((offsC (l.take i)).foldl zeroM [])]) (fun i => l.length - i) (fun i => i ≤ l.length) 0 ?start ?frame0 ?objs0 ?round)
  case start => exact Nat.zero_le _
  case frame0 => ((try dsimp only [upds, z0, z1]); repeat (first | exact LeF.nil | refine LeF.co (k := ?_)))
  case objs0 => rfl
  case round =>
    rintro i h1
    dsimp only [upds, z0, z1]
    by_cases hi : i < l.length
    · have hgi := hg _ (List.getElem_mem hi)
      obtain ⟨p1, p2⟩ := chk_len hgi
      have hoc : ∀ t ∈ offsC (l.take i), chkV t = 0 := fun t ht => by
        obtain ⟨s, hs, ht⟩ := List.mem_flatMap.1 ht
        exact offs_chk (hg s (List.mem_of_mem_take hs)) t ht
      have e := offs_snoc hi
      (repeat' (first | ((first | apply WL.opN | apply WD.opN); exact yF; dsimp only [setD, z0, z1]) | refine WL.nil ?_ | refine WC.seqK fun Kx hK => ?_ | (refine hK _ _ ?_; clear hK) | refine WC.region ?_ | ((first | apply WL.opN | apply WD.opN); (focus ((first | ((first | apply SY.move | apply SY.assign | apply SY.lss | apply SY.gtr) <;> (exact oD)) | (apply SY.len; (exact oD); (exact nD); (exact uD)) | (apply SY.ix; (exact eD); (exact oD); (exact oD); exact kD) | fail); all_goals infer_instance)); dsimp only [setD, z0, z1]) | (apply WC.condD; (exact oD); all_goals (intro h; try exact xD)) | refine WC.skip ?_ | refine WC.block ?_))
      (refine WC.loopU (X := Nat) (fun j => [(26, dI (j : Int)), (6, dA), (27, dA), (28, dA), (29, dA), (30, dA), (31, dA), (32, dA), (33, dA), (34, dA), (35, dA), (36, dA), (37, dA)]) (fun j => [hM b kvK vvI ((offsC (l.take i) ++ (offsV l[i]).take j).foldl zeroM [])]) (fun j => l[i].length - j) (fun j => j ≤ l[i].length) 0 ?start ?frame0 ?objs0 ?round)
      case start => exact Nat.zero_le _
      case frame0 => ((try dsimp only [upds, z0, z1]); repeat (first | exact LeF.nil | refine LeF.co (k := ?_)))
      case objs0 => simp
      case round =>
        rintro j k1
        dsimp only [upds, z0, z1]
        by_cases hj : j < l[i].length
        · by_cases h2 : 1 < l[i].length
          · have c1 := without32_p l[i] j hj (by omega)
            have ho : offsV l[i] = (List.range l[i].length).map (remV l[i]) := if_pos h2
            have hjo : j < (offsV l[i]).length := by rw [ho, List.length_map, List.length_range]; exact hj
            have hat : (offsV l[i])[j] = remV l[i] j := by simp only [ho, List.getElem_map, List.getElem_range]
            have hck := offs_chk hgi _ (List.getElem_mem hjo)
            rw [hat] at hck
            have c2 := of32_p (remV l[i] j) (chk_len hck).2
            have hok : ∀ p ∈ (offsC (l.take i) ++ (offsV l[i]).take j).foldl zeroM [], okK p.1 := fun p hp => ok_key (by
              rcases List.mem_append.1 (zeros_mem p hp) with q | q
              · exact hoc _ q
              · exact offs_chk hgi _ (List.mem_of_mem_take q))
            have hn : (((offsC (l.take i) ++ (offsV l[i]).take j).foldl zeroM []).map (·.1)).Nodup := zeros_keys _ _ List.Pairwise.nil
            have e2 : (offsC (l.take i) ++ (offsV l[i]).take (j + 1)).foldl zeroM [] = putM ((offsC (l.take i) ++ (offsV l[i]).take j).foldl zeroM []) (remV l[i] j) 0 := by
              rw [take_snoc' hjo, ← List.append_assoc, List.foldl_append, hat]; rfl
            generalize (offsC (l.take i) ++ (offsV l[i]).take j).foldl zeroM [] = M at *
            ((repeat' (first | ((first | apply WL.opN | apply WD.opN); exact yF; dsimp only [setD, z0, z1]) | refine WL.nil ?_ | refine WC.seqK fun Kx hK => ?_ | (refine hK _ _ ?_; clear hK) | refine WC.region ?_ |  (refine WL.putMap (u := (0 : Int)) mapT_cnt2 keyT_K2 (OpD.t rfl) (OpD.t rfl) isX OpD.i ⟨fun _ _ _ h => h⟩ (ok_key hck) hok hn ?_; dsimp only [setD, z0, z1]) | ((first | apply WL.opN | apply WD.opN); (focus ((first | (apply SY.call (c1) Tryz.call90; (exact aD)) | (apply SY.call (c2) Tryz.call119; (exact aD)) | ((first | apply SY.move | apply SY.assign | apply SY.lss | apply SY.gtr) <;> (exact oD)) | ((first | apply SY.add) <;> first | exact oD | omega) | (apply SY.len; (exact oD); (exact nD); (exact uD)) | fail); all_goals infer_instance)); dsimp only [setD, z0, z1]) | (apply WC.condD; (exact oD); all_goals (intro h; try exact xD)) | refine WC.skip ?_ | refine WC.block ?_ | refine ThenD.n ?_)); all_goals (first | ((repeat clear hK); (repeat clear Kx))))
            all_goals first | (exfalso; omega) | skip
            (refine ⟨j + 1 , ?_, by first | omega | (simp only; omega), by ((try simp only);  rw [e2]), ?_⟩; rotate_left; ((try dsimp only [upds, z0, z1]); repeat (first | exact LeF.nil | refine LeF.co (k := ?_))); (try dsimp only))
            omega
          · have ho : offsV l[i] = [] := if_neg h2
            ((repeat' (first | ((first | apply WL.opN | apply WD.opN); exact yF; dsimp only [setD, z0, z1]) | refine WL.nil ?_ | refine WC.seqK fun Kx hK => ?_ | (refine hK _ _ ?_; clear hK) | refine WC.region ?_ | ((first | apply WL.opN | apply WD.opN); (focus ((first | ((first | apply SY.move | apply SY.assign | apply SY.lss | apply SY.gtr) <;> (exact oD)) | ((first | apply SY.add) <;> first | exact oD | omega) | (apply SY.len; (exact oD); (exact nD); (exact uD)) | fail); all_goals infer_instance)); dsimp only [setD, z0, z1]) | (apply WC.condD; (exact oD); all_goals (intro h; try exact xD)) | refine WC.skip ?_ | refine WC.block ?_ | refine ThenD.n ?_)); all_goals (first | ((repeat clear hK); (repeat clear Kx))))
            all_goals first | (exfalso; omega) | skip
            (refine ⟨j + 1 , ?_, by first | omega | (simp only; omega), by ((try simp only);  rw [ho, List.take_nil, List.take_nil]), ?_⟩; rotate_left; ((try dsimp only [upds, z0, z1]); repeat (first | exact LeF.nil | refine LeF.co (k := ?_))); (try dsimp only))
            omega
        · have ht : (offsV l[i]).take j = offsV l[i] := List.take_of_length_le (by
            unfold offsV
            split
            · rw [List.length_map, List.length_range]; omega
            · exact Nat.zero_le _)
          ((repeat' (first | ((first | apply WL.opN | apply WD.opN); exact yF; dsimp only [setD, z0, z1]) | refine WL.nil ?_ | refine WC.seqK fun Kx hK => ?_ | (refine hK _ _ ?_; clear hK) | (refine Kont.skip ?_; clear hK) | refine WC.region ?_ | ((first | apply WL.opN | apply WD.opN); (focus ((first | ((first | apply SY.move | apply SY.assign | apply SY.lss | apply SY.gtr) <;> (exact oD)) | ((first | apply SY.add) <;> first | exact oD | omega) | fail); all_goals infer_instance)); dsimp only [setD, z0, z1]) | (apply WC.condD; (exact oD); all_goals (intro h; try exact xD)) | refine WC.exit ?_ | refine ThenD.n ?_)); all_goals (first | ((repeat clear hK); (repeat clear Kx))))
          (refine ⟨i + 1 , ?_, by first | omega | (simp only; omega), by ((try simp only);  rw [e, ht]), ?_⟩; rotate_left; ((try dsimp only [upds, z0, z1]); repeat (first | exact LeF.nil | refine LeF.co (k := ?_))); (try dsimp only))
          omega
    · rw [List.take_of_length_le (by omega)]
      have hoc : ∀ t ∈ offsC l, chkV t = 0 := fun t ht => by
        obtain ⟨s, hs, ht⟩ := List.mem_flatMap.1 ht
        exact offs_chk (hg s hs) t ht
      have hn0 : (((offsC l).foldl zeroM []).map (·.1)).Nodup := zeros_keys _ _ List.Pairwise.nil
      have hok0 : ∀ (o : Cx), ∀ p ∈ o.foldl bumpM ((offsC l).foldl zeroM []), okK p.1 := fun o p hp => by
        have h1 := ((bumps_keys o _ hn0).2 p.1).1 (List.mem_map_of_mem hp)
        obtain ⟨q, hq, hqe⟩ := List.mem_map.1 h1
        rw [← hqe]
        exact ok_key (hoc _ (zeros_mem q hq))
      have hlk0 : ∀ (o : Cx) (x : List Vx), (lookM (o.foldl bumpM ((offsC l).foldl zeroM [])) x).getD 0 ≤ o.length ∧ 0 ≤ (lookM (o.foldl bumpM ((offsC l).foldl zeroM [])) x).getD 0 := fun o x => by
        have hcl := List.count_le_length (a := x) (l := o)
        rw [bumps_look, zeros_look]
        by_cases hx : x ∈ offsC l
        · rw [if_pos hx]; simp; omega
        · rw [if_neg hx]; simp [lookM]
      have hcK : cntK l = (propC l).foldl bumpM ((offsC l).foldl zeroM []) := rfl
      generalize (offsC l).foldl zeroM [] = M0 at *
      have hn8 : ∀ s ∈ l, s.length ≤ 8 := fun s hs => (chk_len (hg s hs)).2
      (repeat' (first | ((first | apply WL.opN | apply WD.opN); exact yF; dsimp only [setD, z0, z1]) | refine WL.nil ?_ | refine WC.seqK fun Kx hK => ?_ | (refine hK _ _ ?_; clear hK) | (refine Kont.skip ?_; clear hK) | refine WC.region ?_ | ((first | apply WL.opN | apply WD.opN); (focus ((first | ((first | apply SY.move | apply SY.assign | apply SY.lss | apply SY.gtr) <;> (exact oD)) | (apply SY.len; (exact oD); (exact nD); (exact uD)) | (apply SY.fldC cpxT; exact OpD.t rfl) | fail); all_goals infer_instance)); dsimp only [setD, z0, z1]) | (apply WC.condD; (exact oD); all_goals (intro h; try exact xD)) | refine WC.exit ?_ | refine WC.block ?_))
      (refine WC.loopU (X := Nat) (fun i => [(42, dI (i : Int)), (8, dA), (9, dA), (10, dA), (11, dA), (13, dA), (14, dA), (15, dA), (43, dA), (44, dA), (45, dA), (46, dA), (47, dA), (48, dA), (49, dA), (50, dA), (51, dA), (52, dA), (53, dA), (54, dA), (55, dA), (56, dA), (57, dA), (58, dA), (59, dA), (60, dA), (61, dA), (62, dA), (63, dA), (64, dA), (65, dA), (66, dA), (67, dA), (68, dA), (69, dA), (70, dA), (71, dA), (72, dA), (73, dA), (74, dA), (75, dA), (76, dA), (77, dA), (78, dA), (79, dA), (80, dA)]) (fun i => [hM b kvK vvI ((propC (l.take i)).foldl bumpM M0)]) (fun i => l.length - i) (fun i => i ≤ l.length) 0 ?start ?frame0 ?objs0 ?round)
      case start => exact Nat.zero_le _
      case frame0 => ((try dsimp only [upds, z0, z1]); repeat (first | exact LeF.nil | refine LeF.co (k := ?_)))
      case objs0 => rfl
      case round =>
        rintro i h1
        dsimp only [upds, z0, z1]
        by_cases hi : i < l.length
        · have hgi := hg _ (List.getElem_mem hi)
          obtain ⟨p1, p2⟩ := chk_len hgi
          have e := prop_snoc hi
          have hpl := propC_len (l := l.take i) fun s hs => hn8 s (List.mem_of_mem_take hs)
          rw [List.length_take] at hpl
          (repeat' (first | ((first | apply WL.opN | apply WD.opN); exact yF; dsimp only [setD, z0, z1]) | refine WL.nil ?_ | refine WC.seqK fun Kx hK => ?_ | (refine hK _ _ ?_; clear hK) | refine WC.region ?_ | ((first | apply WL.opN | apply WD.opN); (focus ((first | ((first | apply SY.move | apply SY.assign | apply SY.lss | apply SY.gtr) <;> (exact oD)) | (apply SY.ix; (exact eD); (exact oD); (exact oD); exact kD) | fail); all_goals infer_instance)); dsimp only [setD, z0, z1]) | (apply WC.condD; (exact oD); all_goals (intro h; try exact xD)) | refine WC.skip ?_ | refine WC.block ?_))
          (refine WC.loopU (X := Nat) (fun k => [(9, dI ((k + 1 : Nat) : Int)), (10, dA), (11, dA), (13, dA), (14, dA), (15, dA), (46, dA), (47, dA), (48, dA), (49, dA), (50, dA), (51, dA), (52, dA), (53, dA), (54, dA), (55, dA), (56, dA), (57, dA), (58, dA), (59, dA), (60, dA), (61, dA), (62, dA), (63, dA), (64, dA), (65, dA), (66, dA), (67, dA), (68, dA), (69, dA), (70, dA), (71, dA), (72, dA), (73, dA), (74, dA), (75, dA), (76, dA), (77, dA), (78, dA), (79, dA)]) (fun k => [hM b kvK vvI ((propC (l.take i) ++ (List.range k).flatMap (fun k => subsV (k + 1) l[i])).foldl bumpM M0)]) (fun k => l[i].length - k) (fun k => k ≤ l[i].length - 1) 0 ?start ?frame0 ?objs0 ?round)
          case start => exact Nat.zero_le _
          case frame0 => ((try dsimp only [upds, z0, z1]); repeat (first | exact LeF.nil | refine LeF.co (k := ?_)))
          case objs0 => simp
          case round =>
            rintro k k1
            dsimp only [upds, z0, z1]
            by_cases hk : k < l[i].length - 1
            · have hF : Fn Tryz.prog 114 [dS Verts l[i], dI ((k + 1 : Nat) : Int)] (dT [dS Simps (subsV (k + 1) l[i]), dI 0]) := by
                have := facesP_p l[i] ((k + 1 : Nat) : Int)
                rwa [facesV_good hgi (by omega) (by omega)] at this
              have hTl := sub256 p2 (k + 1)
              have hTc : ∀ t ∈ subsV (k + 1) l[i], chkV t = 0 := fun t ht => (face_good hgi (by omega) ht).1
              have hpk := flat_le (fun k => subsV (k + 1) l[i]) 256 (List.range k) fun k _ => sub256 p2 _
              rw [List.length_range] at hpk
              have ek : (List.range (k + 1)).flatMap (fun k => subsV (k + 1) l[i]) = (List.range k).flatMap (fun k => subsV (k + 1) l[i]) ++ subsV (k + 1) l[i] := by
                rw [List.range_succ, List.flatMap_append]; simp
              generalize (List.range k).flatMap (fun k => subsV (k + 1) l[i]) = PK at *
              generalize propC (l.take i) = PC at *
              generalize subsV (k + 1) l[i] = T at *
              (repeat' (first | ((first | apply WL.opN | apply WD.opN); exact yF; dsimp only [setD, z0, z1]) | refine WL.nil ?_ | refine WC.seqK fun Kx hK => ?_ | (refine hK _ _ ?_; clear hK) | refine WC.region ?_ | ((first | apply WL.opN | apply WD.opN); (focus ((first | (apply SY.call (hF) Tryz.call114; (exact aD)) | ((first | apply SY.move | apply SY.assign | apply SY.lss | apply SY.gtr) <;> (exact oD)) | (apply SY.len; (exact oD); (exact nD); (exact uD)) | (apply SY.extract; (exact oD); rfl) | fail); all_goals infer_instance)); dsimp only [setD, z0, z1]) | (apply WC.condD; (exact oD); all_goals (intro h; try exact xD)) | refine WC.skip ?_ | refine WC.block ?_))
              all_goals first | (exfalso; omega) | skip
              (refine WC.loopU (X := Nat) (fun j => [(60, dI (j : Int)), (13, dA), (14, dA), (15, dA), (61, dA), (62, dA), (63, dA), (64, dA), (65, dA), (66, dA), (67, dA), (68, dA), (69, dA), (70, dA), (71, dA), (72, dA), (73, dA), (74, dA), (75, dA), (76, dA), (77, dA), (78, dA), (79, dA)]) (fun j => [hM b kvK vvI ((PC ++ PK ++ T.take j).foldl bumpM M0)]) (fun j => T.length - j) (fun j => j ≤ T.length) 0 ?start ?frame0 ?objs0 ?round)
              case start => exact Nat.zero_le _
              case frame0 => ((try dsimp only [upds, z0, z1]); repeat (first | exact LeF.nil | refine LeF.co (k := ?_)))
              case objs0 => simp
              case round =>
                rintro j q1
                dsimp only [upds, z0, z1]
                by_cases hj : j < T.length
                · have hx := hTc _ (List.getElem_mem hj)
                  have c2 := of32_p T[j] (chk_len hx).2
                  have hn := (bumps_keys (PC ++ PK ++ T.take j) M0 hn0).1
                  have hok := hok0 (PC ++ PK ++ T.take j)
                  have hlk := hlk0 (PC ++ PK ++ T.take j) T[j]
                  rw [List.length_append, List.length_append, List.length_take] at hlk
                  have ej : (PC ++ PK ++ T.take (j + 1)).foldl bumpM M0 = bumpM ((PC ++ PK ++ T.take j).foldl bumpM M0) T[j] := by
                    rw [take_snoc' hj, ← List.append_assoc, List.foldl_append]; rfl
                  generalize (PC ++ PK ++ T.take j).foldl bumpM M0 = M at *
                  cases hs : (lookM M T[j]).isSome with
                  | true =>
                    obtain ⟨q, hq, hqv⟩ : ∃ (q : Nat) (h : q < M.length), M[q].1 = T[j] := by
                      obtain ⟨p, hp, hpv⟩ := List.mem_map.1 (lookM_keys.1 hs)
                      obtain ⟨q, hq, rfl⟩ := List.getElem_of_mem hp
                      exact ⟨q, hq, hpv⟩
                    ((repeat' (first |  (refine WC.drawM (fun hp' => hM b kvK vvI M ∈ hp') 7 1 [(0, false), (1, false), (2, false), (3, false), (4, false), (5, true), (6, false)] [true, true, true, true, true, true, true, false] (by kernel_rfl) (by kernel_rfl) (by kernel_rfl) rfl (.head _) ?_) |  (first | refine WA.one (S := [true, true, true, true, true, true, true, false]) (i := 7) (by kernel_rfl) rfl ?_ | refine WA.nil (S := [true, true, true, true, true, true, true, true]) (by kernel_rfl) ?_) |  (refine WM.writeL rfl (SW.entOld mapT_cnt2 keyT_K2 (OpD.t rfl) (OpD.t rfl) isX (ok_key hx) hok hn hq hqv (0 : Int) rfl) (fun _ => .head _) fun _ => ?_; dsimp only [setD, z0, z1, List.cons_append, List.nil_append]) | (refine WM.nil ?_) | (apply WM.readL rfl; (focus (intro c hcc; apply SYG.yes; (exact want_none rfl); ((first | (apply SY.call (c2) Tryz.call119; (exact aD)) | (refine SY.lookCntK (OpD.t rfl) hcc (OpD.t rfl) (ok_key hx) hok hn) | ((first | apply SY.move | apply SY.assign | apply SY.lss | apply SY.gtr) <;> (exact oD)) | ((first | apply SY.add) <;> first | exact oD | omega) | (apply SY.extract; (exact oD); rfl) | fail); all_goals infer_instance))); dsimp only [setD, z0, z1]) | ((first | apply WL.opN | apply WD.opN); exact yF; dsimp only [setD, z0, z1]) | refine WL.nil ?_ | refine WC.seqK fun Kx hK => ?_ | (refine hK _ _ ?_; clear hK) | refine WC.region ?_ |  (refine WL.entS (u := (lookM M T[j]).getD 0 + 1) (OpD.t rfl) (OpD.t rfl) (OpD.t rfl) ⟨fun _ _ _ h => h⟩ hq ?_; dsimp only [setD]) | ((first | apply WL.opN | apply WD.opN); (focus ((first | (apply SY.call (c2) Tryz.call119; (exact aD)) | (refine SY.lookM2 (v := T[j]) mapT_cnt2 keyT_K2 (OpD.t rfl) (.head _) (OpD.t rfl) isX (ok_key hx) hok hn) | ((first | apply SY.move | apply SY.assign | apply SY.lss | apply SY.gtr) <;> (exact oD)) | ((first | apply SY.add) <;> first | exact oD | omega) | (apply SY.ix; (exact eD); (exact oD); (exact oD); exact kD) | (apply SY.extract; (exact oD); rfl) | fail); all_goals infer_instance)); dsimp only [setD, z0, z1]) | (apply WC.condD; (exact oD); all_goals (intro h; try exact xD)) | (apply WC.cond; (exact oD); all_goals (intro h; try exact xD)) | refine WC.skip ?_ | refine WC.block ?_ | refine ThenD.n ?_)); all_goals (first | ((repeat clear hK); (repeat clear Kx))))
                    all_goals first | (exfalso; omega) | (exfalso; rw [hs] at h; cases h; done) | skip
                    refine ⟨j + 1, ?_, by omega, by rw [ej, show bumpM M T[j] = putM M T[j] ((lookM M T[j]).getD 0 + 1) from if_pos hs, ← hqv, putM_set hn hq], ?_⟩
                    rotate_left
                    · ((try dsimp only [upds, z0, z1]); repeat (first | exact LeF.nil | refine LeF.co (k := ?_)))
                    · omega
                  | false =>
                    rw [show bumpM M T[j] = M from by unfold bumpM; rw [hs]; rfl] at ej
                    ((repeat' (first | ((first | apply WL.opN | apply WD.opN); exact yF; dsimp only [setD, z0, z1]) | refine WL.nil ?_ | refine WC.seqK fun Kx hK => ?_ | (refine hK _ _ ?_; clear hK) | refine WC.region ?_ | (apply WC.draw; kernel_rfl; kernel_rfl) | ((first | apply WL.opN | apply WD.opN); (focus ((first | (apply SY.call (c2) Tryz.call119; (exact aD)) | (refine SY.lookM2 (v := T[j]) mapT_cnt2 keyT_K2 (OpD.t rfl) (.head _) (OpD.t rfl) isX (ok_key hx) hok hn) | ((first | apply SY.move | apply SY.assign | apply SY.lss | apply SY.gtr) <;> (exact oD)) | ((first | apply SY.add) <;> first | exact oD | omega) | (apply SY.ix; (exact eD); (exact oD); (exact oD); exact kD) | (apply SY.extract; (exact oD); rfl) | fail); all_goals infer_instance)); dsimp only [setD, z0, z1]) | (apply WC.condD; (exact oD); all_goals (intro h; try exact xD)) | (apply WC.cond; (exact oD); all_goals (intro h; try exact xD)) | refine WC.skip ?_ | refine WC.block ?_ | refine ThenD.n ?_)); all_goals (first | ((repeat clear hK); (repeat clear Kx))))
                    all_goals first | (exfalso; omega) | (exfalso; rw [hs] at h; cases h; done) | skip
                    (refine ⟨j + 1 , ?_, by first | omega | (simp only; omega), by ((try simp only);  rw [ej]), ?_⟩; rotate_left; ((try dsimp only [upds, z0, z1]); repeat (first | exact LeF.nil | refine LeF.co (k := ?_))); (try dsimp only))
                    omega
                · rw [List.take_of_length_le (by omega)]
                  ((repeat' (first | ((first | apply WL.opN | apply WD.opN); exact yF; dsimp only [setD, z0, z1]) | refine WL.nil ?_ | refine WC.seqK fun Kx hK => ?_ | (refine hK _ _ ?_; clear hK) | (refine Kont.skip ?_; clear hK) | refine WC.region ?_ | ((first | apply WL.opN | apply WD.opN); (focus ((first | ((first | apply SY.move | apply SY.assign | apply SY.lss | apply SY.gtr) <;> (exact oD)) | ((first | apply SY.add) <;> first | exact oD | omega) | fail); all_goals infer_instance)); dsimp only [setD, z0, z1]) | (apply WC.condD; (exact oD); all_goals (intro h; try exact xD)) | refine WC.exit ?_ | refine ThenD.n ?_)); all_goals (first | ((repeat clear hK); (repeat clear Kx))))
                  (refine ⟨k + 1 , ?_, by first | omega | (simp only; omega), by ((try simp only);  rw [ek, List.append_assoc]), ?_⟩; rotate_left; ((try dsimp only [upds, z0, z1]); repeat (first | exact LeF.nil | refine LeF.co (k := ?_))); (try dsimp only))
                  omega
            · have hke : k = l[i].length - 1 := by omega
              subst hke
              ((repeat' (first | ((first | apply WL.opN | apply WD.opN); exact yF; dsimp only [setD, z0, z1]) | refine WL.nil ?_ | refine WC.seqK fun Kx hK => ?_ | (refine hK _ _ ?_; clear hK) | (refine Kont.skip ?_; clear hK) | refine WC.region ?_ | ((first | apply WL.opN | apply WD.opN); (focus ((first | ((first | apply SY.move | apply SY.assign | apply SY.lss | apply SY.gtr) <;> (exact oD)) | ((first | apply SY.add) <;> first | exact oD | omega) | (apply SY.len; (exact oD); (exact nD); (exact uD)) | fail); all_goals infer_instance)); dsimp only [setD, z0, z1]) | (apply WC.condD; (exact oD); all_goals (intro h; try exact xD)) | refine WC.exit ?_ | refine ThenD.n ?_)); all_goals (first | ((repeat clear hK); (repeat clear Kx))))
              all_goals first | (exfalso; omega) | skip
              (refine ⟨i + 1 , ?_, by first | omega | (simp only; omega), by ((try simp only);  rw [e]; rfl), ?_⟩; rotate_left; ((try dsimp only [upds, z0, z1]); repeat (first | exact LeF.nil | refine LeF.co (k := ?_))); (try dsimp only))
              omega
        · rw [List.take_of_length_le (by omega), ← hcK]
          ((repeat' (first | ((first | apply WL.opN | apply WD.opN); exact yF; dsimp only [setD, z0, z1]) | refine WL.nil ?_ | refine WC.seqK fun Kx hK => ?_ | (refine hK _ _ ?_; clear hK) | (refine Kont.skip ?_; clear hK) | refine WC.region ?_ | ((first | apply WL.opN | apply WD.opN); (focus ((first | ((first | apply SY.move | apply SY.assign | apply SY.lss | apply SY.gtr) <;> (exact oD)) | fail); all_goals infer_instance)); dsimp only [setD, z0, z1]) | (apply WC.condD; (exact oD); all_goals (intro h; try exact xD)) | refine WC.ret ?_ | refine WC.exit ?_)); all_goals (first | ((repeat clear hK); (repeat clear Kx))))
          refine ⟨trivial, _, rfl, ?_⟩
          exact FinD.mapI (_gR := inferInstance) (.head _) (fun _ _ _ => rfl)
end Go.Proofs.YtjbepoofigokjaaGreat
namespace Go.Proofs.YtjbepoofigokjaaGreat
theorem ascK_ext : ∀ {a b : List Cl}, AscK a → AscK b → (∀ x, x ∈ a ↔ x ∈ b) → a = b
  | [], [], _, _, _ => rfl
  | [], y :: b, _, _, h => absurd ((h y).2 (by simp)) (by simp)
  | x :: a, [], _, _, h => absurd ((h x).1 (by simp)) (by simp)
  | x :: a, y :: b, ha, hb, h => by
    unfold AscK at ha hb
    rw [List.pairwise_cons] at ha hb
    have hxy : x = y := by
      have h1 := (h x).1 (by simp)
      have h2 := (h y).2 (by simp)
      rw [List.mem_cons] at h1 h2
      rcases h1 with h1 | h1
      · exact h1
      rcases h2 with h2 | h2
      · exact h2.symm
      exact absurd (hb.1 x h1) (cmp_asym (ha.1 y h2))
    subst hxy
    rw [ascK_ext ha.2 hb.2 fun z => ?_]
    have h1 := h z
    rw [List.mem_cons, List.mem_cons] at h1
    constructor
    · intro hz
      rcases h1.1 (.inr hz) with rfl | h2
      · have := ha.1 z hz; have := cmpL_irr z.1; omega
      · exact h2
    · intro hz
      rcases h1.2 (.inr hz) with rfl | h2
      · have := hb.1 z hz; have := cmpL_irr z.1; omega
      · exact h2
theorem sort_asc {l : List Cl} (hs : SortK l) (hn : l.Nodup) (hf : ∀ x ∈ l, ∀ y ∈ l, x.1 = y.1 → x = y) : AscK l := by
  unfold SortK at hs
  unfold AscK
  rw [List.pairwise_iff_getElem] at hs ⊢
  intro i j hi hj hij
  have h1 := hs i j hi hj hij
  have h2 : l[i] ≠ l[j] := fun e => by
    have := (List.pairwise_iff_getElem.1 hn) i j hi hj hij
    exact this e
  rcases cmpL_cases l[i].1 l[j].1 with h | h | h
  · exact h
  · exact absurd h h1
  · exact absurd (hf _ (List.getElem_mem hi) _ (List.getElem_mem hj) h) h2
theorem flatK_nodup {f : List Vx → List Cl} : ∀ {l : Cx}, l.Nodup → (∀ s ∈ l, (f s).Nodup) → (∀ s ∈ l, ∀ x ∈ f s, x.2 = s) → (l.flatMap f).Nodup
  | [], _, _, _ => List.Pairwise.nil
  | s :: l, hn, h1, h2 => by
    rw [List.nodup_cons] at hn
    rw [List.flatMap_cons, List.nodup_append]
    refine ⟨h1 s (List.mem_cons_self ..), flatK_nodup hn.2 (fun t ht => h1 t (List.mem_cons_of_mem _ ht)) (fun t ht => h2 t (List.mem_cons_of_mem _ ht)), fun a ha b hb e => ?_⟩
    subst e
    obtain ⟨t, ht, hm⟩ := List.mem_flatMap.1 hb
    have e1 := h2 s (List.mem_cons_self ..) a ha
    have e2 := h2 t (List.mem_cons_of_mem _ ht) a hm
    rw [e1] at e2
    subst e2
    exact hn.1 ht
theorem pairs_nodup {l : Cx} (G : GoodX l) : (pairsC l).Nodup := by
  unfold pairsC prK
  rw [(foldK_perm _ _).nodup_iff, List.append_nil]
  refine flatK_nodup G.2.1.nodup (fun s hs => ?_) fun s _ x hx => ?_
  · unfold offK
    split
    · exact List.Pairwise.nil
    · unfold rowK
      refine List.pairwise_map.2 (List.Pairwise.imp (fun {a b} hab e => hab (by injection e)) ((subs_nodup (G.asc s hs) _).filter _))
  · unfold offK at hx
    split at hx
    · cases hx
    · exact (rowK_mem.1 hx).1
theorem pairs_asc {l : Cx} (G : GoodX l) : AscK (pairsC l) := by
  refine sort_asc (foldK_sort _ List.Pairwise.nil) (pairs_nodup G) fun x hx y hy e => ?_
  have h1 := pair_ok G hx
  have h2 := pair_ok G hy
  have a1 := (chkV_zero.1 h1.chk1).2.2.2
  refine Prod.ext e ?_
  exact h2.one _ h1.mem (by rw [← e]; exact (sub_inside a1 (G.asc _ h1.mem)).1 h1.sub)
def freeV (l : Cx) (s : List Vx) : List Cl := if s.length = 1 then [] else ((List.range s.length).filter fun i => decide ((lookM (cntK l) (remV s i)).getD 0 = 1)).map fun i => (remV s i, s)
def freeP (l : Cx) : List Cl := l.flatMap (freeV l)
theorem remV_get {s : List Vx} {i j : Nat} (hj : j < s.length) (hij : i < j) : (remV s j)[i]? = s[i]? := by
  unfold remV
  rw [List.getElem?_append_left (by rw [List.length_take]; omega), List.getElem?_take, if_pos hij]
theorem remV_get2 {s : List Vx} {i : Nat} (hi : i < s.length) : (remV s i)[i]? = s[i + 1]? := by
  unfold remV
  rw [List.getElem?_append_right (by rw [List.length_take]; omega), List.length_take, List.getElem?_drop]
  congr 1; omega
theorem remV_inj {s : List Vx} (hn : s.Nodup) {i j : Nat} (hj : j < s.length) (hij : i < j) : remV s i ≠ remV s j := fun e => by
  have h1 := remV_get hj hij
  rw [← e, remV_get2 (by omega), List.getElem?_eq_getElem (by omega), List.getElem?_eq_getElem (by omega)] at h1
  have := (List.pairwise_iff_getElem.1 hn) i (i + 1) (by omega) (by omega) (by omega)
  exact this (Option.some.inj h1).symm
theorem freeP_nodup {l : Cx} (G : GoodX l) : (freeP l).Nodup := by
  unfold freeP
  refine flatK_nodup G.2.1.nodup (fun s hs => ?_) fun s _ x hx => ?_
  · unfold freeV
    split
    · exact List.Pairwise.nil
    · refine List.pairwise_map.2 ?_
      refine List.Pairwise.imp_of_mem (fun {a b} ha hb hab e => ?_) (List.pairwise_lt_range.filter _)
      have hb' := List.mem_range.1 (List.mem_filter.1 hb).1
      exact remV_inj (asc_nd (G.asc s hs)) hb' hab (by injection e)
  · unfold freeV at hx
    split at hx
    · cases hx
    · obtain ⟨i, _, rfl⟩ := List.mem_map.1 hx; rfl
theorem remV_all {s t : List Vx} (hs : 0 < s.length) : t ∈ subsV (s.length - 1) s ↔ ∃ i, i < s.length ∧ t = remV s i := by
  rw [subsV_mem]
  constructor
  · rintro ⟨h1, h2⟩
    induction h1 with
    | slnil => simp at hs
    | @cons t s a h ih =>
      rw [List.length_cons] at h2
      have : t = s := h.eq_of_length (by omega)
      subst this
      exact ⟨0, by simp, by simp [remV]⟩
    | @cons_cons t s a h ih =>
      rw [List.length_cons, List.length_cons] at h2
      obtain ⟨i, hi, he⟩ := ih (by omega) (by omega)
      exact ⟨i + 1, by rw [List.length_cons]; omega, by rw [he]; simp [remV]⟩
  · rintro ⟨i, hi, rfl⟩
    exact ⟨remV_sub s i, remV_len hi⟩
theorem free_mem {l : Cx} (G : GoodX l) {x : Cl} : x ∈ freeP l ↔ x ∈ pairsC l := by
  rw [pairs_mem]
  unfold freeP
  rw [List.mem_flatMap]
  have key : ∀ s ∈ l, s.length ≠ 1 → ∀ i, i < s.length → ((lookM (cntK l) (remV s i)).getD 0 = 1 ↔ abvC l (remV s i) = 1) := fun s hs h1 i hi => by
    have hp := chk_len (G.2.2.1 s hs)
    have hlen := remV_len hi
    have hmem : remV s i ∈ offsC l := List.mem_flatMap.2 ⟨s, hs, by unfold offsV; rw [if_pos (by omega)]; exact List.mem_map.2 ⟨i, List.mem_range.2 hi, rfl⟩⟩
    have ha : Asc (remV s i) := (G.asc s hs).sublist (remV_sub s i)
    have hnl : remV s i ∉ l := fun hm => by
      have := inside_anti G hm hs ((sub_inside ha (G.asc s hs)).1 (remV_sub s i))
      have := congrArg List.length this
      omega
    rw [cntK_look, if_pos hmem, count_abv G ha (by omega) hnl]
    simp
    omega
  constructor
  · rintro ⟨s, hs, hx⟩
    unfold freeV at hx
    split at hx
    · cases hx
    · next h1 =>
      obtain ⟨i, hi, rfl⟩ := List.mem_map.1 hx
      obtain ⟨hi, hc⟩ := List.mem_filter.1 hi
      have hi := List.mem_range.1 hi
      have hp := chk_len (G.2.2.1 s hs)
      exact ⟨hs, h1, (remV_all hp.1).2 ⟨i, hi, rfl⟩, (key s hs h1 i hi).1 (of_decide_eq_true hc)⟩
  · rintro ⟨h1, h2, h3, h4⟩
    have hp := chk_len (G.2.2.1 _ h1)
    obtain ⟨i, hi, he⟩ := (remV_all hp.1).1 h3
    refine ⟨x.2, h1, ?_⟩
    unfold freeV
    rw [if_neg h2]
    refine List.mem_map.2 ⟨i, List.mem_filter.2 ⟨List.mem_range.2 hi, decide_eq_true ((key _ h1 h2 i hi).2 (by rw [← he]; exact h4))⟩, ?_⟩
    rw [← he]
theorem free_sorted {l : Cx} (G : GoodX l) {ys : List Cl} (hp : ys.Perm (freeP l)) (hs : SortK ys) : ys = pairsC l := by
  have hm : ∀ x, x ∈ ys ↔ x ∈ pairsC l := fun x => (hp.mem_iff).trans (free_mem G)
  have ha := pairs_asc G
  refine ascK_ext (sort_asc hs (hp.nodup_iff.2 (freeP_nodup G)) fun x hx y hy e => ?_) ha hm
  have h1 := pair_ok G ((hm x).1 hx)
  have h2 := pair_ok G ((hm y).1 hy)
  have a1 := (chkV_zero.1 h1.chk1).2.2.2
  refine Prod.ext e ?_
  exact h2.one _ h1.mem (by rw [← e]; exact (sub_inside a1 (G.asc _ h1.mem)).1 h1.sub)
end Go.Proofs.YtjbepoofigokjaaGreat
