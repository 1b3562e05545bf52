/- Part 33: walks by contracts, and plain laws. -/
import Derived.Test.YtmcllakdbgnfiaaGreatDoorVg29
set_option linter.unusedVariables false
set_option linter.unusedSimpArgs false
set_option linter.unusedSectionVars false
set_option maxRecDepth 100000
set_option maxHeartbeats 4000000
namespace Go.Proofs.YtmcllakdbgnfiaaGreatDoor
section
open Go.RowKit

abbrev NumM := List (List UInt8 × Int)
def kvS (l : List UInt8) : Value := .string ⟨l.toArray⟩
def okS (l : List UInt8) : Prop := l.length <= 1000000
theorem keyT_S : KeyT Tryz.prog 9 kvS okS where
 law := Go.Maps.string_keyed Tryz.underlying9
 lit := fun l hl => by
  have hz : (⟨l.toArray⟩ : ByteArray).size <= maxLen := by
   unfold okS at hl
   simp only [ByteArray.size, List.size_toArray, maxLen]
   omega
  refine ⟨.string l, ?_⟩
  unfold keyOf kvS
  simp [Tryz.underlying9, mapKey, hz]
 inj := fun x y _ _ h => by
  unfold kvS at h
  injection h with h
  injection h with h
  exact List.toArray_inj h
theorem ZBH : MapT Tryz.prog 69 9 3 (.int .i64 0) := ⟨Tryz.underlying69, fun w => by kernel_rfl⟩
theorem tyNum : TyI Tryz.prog 69 1 false := ⟨by kernel_rfl, Tryz.isAgg69⟩
theorem tzNum : TyZ Tryz.prog 69 (.map none) := ⟨by kernel_rfl⟩
def numS (M : NumM) (x : List Vx) : NumM := if (lookM M (txS x)).isSome then M else ZBP M (txS x) (M.length : Int)
def facV (s : List Vx) : Cx := (List.range s.length).flatMap fun k => ZX (k + 1) s
def ZCN (l : Cx) : Cx := l.flatMap facV
def ZBZ (l : Cx) : NumM := (ZCN l).foldl numS []
theorem facK_snoc {l : Cx} {i : Nat} (h : i < l.length) : ZCN (l.take (i + 1)) = ZCN (l.take i) ++ facV l[i] := by
 unfold ZCN; rw [List.take_succ_eq_append_getElem h, List.flatMap_append]; simp
theorem look_key {M : NumM} {x : List UInt8} (h : (lookM M x).isSome = false) : ∀ p ∈ M, p.1 ≠ x := fun p hp he => by
 have h1 : (lookM M x).isSome = true := by
  unfold lookM
  rw [Option.isSome_map, List.find?_isSome]
  exact ⟨p, hp, by simpa using he⟩
 rw [h] at h1; cases h1
theorem numS_keys {M : NumM} {x : List Vx} (h : (M.map (·.1)).Nodup) : ((numS M x).map (·.1)).Nodup := by
 unfold numS
 split
 ·exact h
 ·rename_i hn
  have hn : (lookM M (txS x)).isSome = false := by simpa using hn
  have hne := look_key hn
  rw [ZCY hne, List.map_append, List.nodup_append]
  refine ⟨h, by simp, ?_⟩
  intro a ha b hb
  obtain ⟨p, hp, rfl⟩ := List.mem_map.1 ha
  have : b = txS x := by simpa using hb
  rw [this]
  exact hne p hp
theorem nums_keys : ∀ (o : Cx) {M : NumM}, (M.map (·.1)).Nodup -> ((o.foldl numS M).map (·.1)).Nodup
 | [], _, h => h
 | _ :: o, _, h => nums_keys o (numS_keys h)
theorem numS_len (M : NumM) (x : List Vx) : (numS M x).length <= M.length + 1 := by
 unfold numS
 split
 ·omega
 ·rename_i hn
  have hn : (lookM M (txS x)).isSome = false := by simpa using hn
  rw [ZCY (look_key hn), List.length_append]; simp
theorem nums_len : ∀ (o : Cx) (M : NumM), (o.foldl numS M).length <= M.length + o.length
 | [], _ => by simp
 | x :: o, M => by
  have h1 := nums_len o (numS M x)
  have h2 := numS_len M x
  rw [List.foldl_cons, List.length_cons]
  omega
theorem FinD.mapN {hp : List HObj} {b : Nat} {M : NumM} (hm : hM b kvS vvI M ∈ hp) : FinD hp (dX (.map (some b))) (dS (MapR kvS RI) M) := FinD.mk fun {P0 B w0 w u} hh hd => by
 have hb : w.heap[b]? = some (Zz _) := hh.ok _ hm
 refine ⟨b, M.map fun p => vvI p.2, hd, own_blocks hh hm rfl, by simp, ?_, fun k h1 h2 => ?_⟩
 ·rw [hb]
  congr 2
  unfold Z5
  rw [List.zip_map', List.map_map]
  rfl
 ·simp only [List.getElem_map]
  exact rfl
theorem numS_ok {M : NumM} {x : List Vx} (hx : okS (txS x)) (h : ∀ p ∈ M, okS p.1) : ∀ p ∈ numS M x, okS p.1 := fun p hp => by
 unfold numS at hp
 split at hp
 ·exact h p hp
 ·rename_i hn
  rw [ZCY (look_key (by simpa using hn))] at hp
  rcases List.mem_append.1 hp with hp | hp
  ·exact h p hp
  ·cases List.mem_singleton.1 hp
   exact hx
theorem nums_ok : ∀ (o : Cx) {M : NumM}, (∀ x ∈ o, okS (txS x)) -> (∀ p ∈ M, okS p.1) -> ∀ p ∈ o.foldl numS M, okS p.1
 | [], _, _, h => h
 | x :: o, _, hx, h => nums_ok o (fun y hy => hx y (List.mem_cons_of_mem _ hy)) (numS_ok (hx x (List.mem_cons_self ..)) h)
def SmallC (l : Cx) : Prop := ∀ s ∈ l, ∀ v ∈ s, (0 <= v.1 /\ v.1 < 100) /\ 0 <= v.2 /\ v.2 < 100
theorem sub_pow {s : List Vx} (h : s.length <= 8) (k : Nat) : (ZX k s).length <= 256 := Nat.le_trans (ZBj _ _) (Nat.pow_le_pow_right (by decide) h : 2 ^ s.length <= 2 ^ 8)
theorem ZBq {α : Type} (f : α -> Cx) (B : Nat) : ∀ l : List α, (∀ s ∈ l, (f s).length <= B) -> (l.flatMap f).length <= B * l.length
 | [], _ => Nat.zero_le _
 | s :: l, h => by
  have h1 := h s (List.mem_cons_self ..)
  have h2 := ZBq f B l fun t ht => h t (List.mem_cons_of_mem _ ht)
  rw [List.flatMap_cons, List.length_append, List.length_cons, Nat.mul_succ]
  omega
theorem facV_len {s : List Vx} (h : s.length <= 8) : (facV s).length <= 2048 := by
 have h1 := ZBq (fun k => ZX (k + 1) s) 256 (List.range s.length) fun k _ => sub_pow h _
 rw [List.length_range] at h1
 unfold facV
 omega
theorem facK_len {l : Cx} (h : ∀ s ∈ l, s.length <= 8) : (ZCN l).length <= 2048 * l.length := ZBq facV 2048 l fun s hs => facV_len (h s hs)
theorem face_ok {s : List Vx} (hs : Zn s = 0) (hS : ∀ v ∈ s, (0 <= v.1 /\ v.1 < 100) /\ 0 <= v.2 /\ v.2 < 100) {k : Nat} {x : List Vx} (hx : x ∈ ZX (k + 1) s) : x.length <= 1000 /\ (∀ v ∈ x, (0 <= v.1 /\ v.1 < 100) /\ 0 <= v.2 /\ v.2 < 100) /\ okS (txS x) := by
 obtain ⟨f1, f2, _⟩ := face_good hs (by omega) hx
 have h8 := (ZBX f1).2
 have hv : ∀ v ∈ x, (0 <= v.1 /\ v.1 < 100) /\ 0 <= v.2 /\ v.2 < 100 := fun v hv => hS v (f2.subset hv)
 refine ⟨by omega, hv, ?_⟩
 have := txS_len hv
 unfold okS
 omega
theorem facK_ok {l : Cx} (hg : ∀ s ∈ l, Zn s = 0) (hS : SmallC l) : ∀ x ∈ ZCN l, okS (txS x) := fun x hx => by
 obtain ⟨s, hs, hx⟩ := List.mem_flatMap.1 hx
 obtain ⟨k, _, hx⟩ := List.mem_flatMap.1 hx
 exact (face_ok (hg s hs) (hS s hs) hx).2.2
set_option maxHeartbeats 8000000 in
theorem faces29_p (l : Cx) (hl : l.length <= 100000) (hg : ∀ s ∈ l, Zn s = 0) (hS : SmallC l) : Fn Tryz.prog 35 [dS Cpx l] (dS (MapR kvS RI) (ZBZ l)) := by
 (refine ZE Tryz.func35 rfl rfl ?_; simp only [Tryz.ntmps35, List.length_cons, List.length_nil, Nat.reduceAdd, Nat.reduceSub, List.replicate_succ, List.replicate_zero, List.cons_append, List.nil_append])
 (repeat' (first | (apply WL.opN; exact yF; dsimp only [ZB, z0, z1]) | refine WL.nil ?_ | refine ZA fun Kx hK => ?_ | (refine hK _ _ ?_; clear hK) | refine WC.region ?_ |  (refine WL.makeMap kvS vvI fun b => ?_; dsimp only [ZB, z0, z1]) | (apply WL.opN; (focus ((first | (apply SY.len; (exact oD); (exact nD); (exact uD)) | (apply ZA7 cpxT; exact OpD.t rfl) | (apply SY.box; (exact oD); (exact hD)) | fail); all_goals infer_instance)); dsimp only [ZB, z0, z1]) | refine WC.block ?_))
 have hn8 : ∀ s ∈ l, s.length <= 8 := fun s hs => (ZBX (hg s hs)).2
 (refine WC.loopU (X := Nat) (fun i => [(17, dI (i : Int)), (5, dA), (6, dA), (7, dA), (8, dA), (10, dA), (11, dA), (12, dA), (18, dA), (19, dA), (20, dA), (21, dA), (22, dA), (23, dA), (24, dA), (25, dA), (26, dA), (27, dA), (28, dA), (29, dA), (30, dA), (31, dA), (32, dA), (33, dA), (34, dA), (35, dA), (36, dA), (37, dA), (38, dA), (39, dA), (40, dA), (41, dA), (42, dA), (43, dA), (44, dA), (45, dA), (46, dA), (47, dA), (48, dA), (49, dA), (50, dA), (51, dA), (52, dA), (53, dA), (54, dA), (55, dA)]) (fun i => [hM b kvS vvI ((ZCN (l.take i)).foldl numS [])]) (fun i => l.length - i) (fun i => i <= l.length) 0 ?start ?frame0 ?objs0 ?round)
 case start => exact Nat.zero_le _
 case frame0 => ((try dsimp only [ZL, z0, z1]); repeat (first | exact LeF.nil | refine ZD (k := ?_)))
 case objs0 => rfl
 case round =>
  rintro i h1
  dsimp only [ZL, z0, z1]
  by_cases hi : i < l.length
  ·have hgi := hg _ (List.getElem_mem hi)
   obtain ⟨p1, p2⟩ := ZBX hgi
   have e := facK_snoc hi
   have hSi := hS _ (List.getElem_mem hi)
   have hpl := facK_len (l := l.take i) fun s hs => hn8 s (List.mem_of_mem_take hs)
   rw [List.length_take] at hpl
   (repeat' (first | (apply WL.opN; exact yF; dsimp only [ZB, z0, z1]) | refine WL.nil ?_ | refine ZA fun Kx hK => ?_ | (refine hK _ _ ?_; clear hK) | refine WC.region ?_ | (apply WL.opN; (focus ((first | ((first | apply SY.move | apply SY.assign | apply SY.lss | apply SY.not) <;> (exact oD)) | (apply SY.len; (exact oD); (exact nD); (exact uD)) | (apply SY.ix; (exact eD); (exact oD); (exact oD); exact kD) | fail); all_goals infer_instance)); dsimp only [ZB, z0, z1]) | (apply ZC; (exact oD); all_goals (intro h; try exact xD)) | refine WC.skip ?_ | refine WC.block ?_))
   (refine WC.loopU (X := Nat) (fun k => [(23, dI (k : Int)), (6, dA), (7, dA), (8, dA), (10, dA), (11, dA), (12, dA), (24, dA), (25, dA), (26, dA), (27, dA), (28, dA), (29, dA), (30, dA), (31, dA), (32, dA), (33, dA), (34, dA), (35, dA), (36, dA), (37, dA), (38, dA), (39, dA), (40, dA), (41, dA), (42, dA), (43, dA), (44, dA), (45, dA), (46, dA), (47, dA), (48, dA), (49, dA), (50, dA), (51, dA), (52, dA), (53, dA), (54, dA)]) (fun k => [hM b kvS vvI ((ZCN (l.take i) ++ (List.range k).flatMap (fun k => ZX (k + 1) l[i])).foldl numS [])]) (fun k => l[i].length - k) (fun k => k <= l[i].length) 0 ?start ?frame0 ?objs0 ?round)
   case start => exact Nat.zero_le _
   case frame0 => ((try dsimp only [ZL, z0, z1]); repeat (first | exact LeF.nil | refine ZD (k := ?_)))
   case objs0 => simp
   case round =>
    rintro k k1
    dsimp only [ZL, z0, z1]
    by_cases hk : k < l[i].length
    ·have hF : Fn Tryz.prog 74 [dS ZF l[i], dI ((k : Int) + 1)] (dT [dS Zq (ZX (k + 1) l[i]), dI 0]) := by
      have := facesP_p l[i] ((k + 1 : Nat) : Int)
      rwa [facesV_good hgi (by omega) (by omega)] at this
     have hTl := sub_pow p2 (k + 1)
     have hTc : ∀ t ∈ ZX (k + 1) l[i], t.length <= 1000 /\ (∀ v ∈ t, (0 <= v.1 /\ v.1 < 100) /\ 0 <= v.2 /\ v.2 < 100) /\ okS (txS t) := fun t ht => face_ok hgi hSi ht
     have hPKo : ∀ x ∈ (List.range k).flatMap (fun k => ZX (k + 1) l[i]), okS (txS x) := fun x hx => by
      obtain ⟨k', _, hx⟩ := List.mem_flatMap.1 hx
      exact (face_ok hgi hSi hx).2.2
     have hPCo : ∀ x ∈ ZCN (l.take i), okS (txS x) := facK_ok (fun s hs => hg s (List.mem_of_mem_take hs)) (fun s hs => hS s (List.mem_of_mem_take hs))
     have hpk := ZBq (fun k => ZX (k + 1) l[i]) 256 (List.range k) fun k _ => sub_pow p2 _
     rw [List.length_range] at hpk
     have ek : (List.range (k + 1)).flatMap (fun k => ZX (k + 1) l[i]) = (List.range k).flatMap (fun k => ZX (k + 1) l[i]) ++ ZX (k + 1) l[i] := by
      rw [List.range_succ, List.flatMap_append]; simp
     generalize (List.range k).flatMap (fun k => ZX (k + 1) l[i]) = PK at *
     generalize ZCN (l.take i) = PC at *
     generalize ZX (k + 1) l[i] = T at *
     (repeat' (first | (apply WL.opN; exact yF; dsimp only [ZB, z0, z1]) | refine WL.nil ?_ | refine ZA fun Kx hK => ?_ | (refine hK _ _ ?_; clear hK) | refine WC.region ?_ | (apply WL.opN; (focus ((first | (apply SY.call (hF) Tryz.call74; (exact aD)) | ((first | apply SY.move | apply SY.assign | apply SY.lss | apply SY.not) <;> (exact oD)) | ((first | apply SY.add) <;> first | exact oD | omega) | (apply SY.len; (exact oD); (exact nD); (exact uD)) | (apply SY.extract; (exact oD); rfl) | fail); all_goals infer_instance)); dsimp only [ZB, z0, z1]) | (apply ZC; (exact oD); all_goals (intro h; try exact xD)) | refine WC.skip ?_ | refine WC.block ?_))
     all_goals first | (exfalso; omega) | skip
     (refine WC.loopU (X := Nat) (fun j => [(35, dI (j : Int)), (10, dA), (11, dA), (12, dA), (36, dA), (37, dA), (38, dA), (39, dA), (40, dA), (41, dA), (42, dA), (43, dA), (44, dA), (45, dA), (46, dA), (47, dA), (48, dA), (49, dA), (50, dA), (51, dA), (52, dA), (53, dA)]) (fun j => [hM b kvS vvI ((PC ++ PK ++ T.take j).foldl numS [])]) (fun j => T.length - j) (fun j => j <= T.length) 0 ?start ?frame0 ?objs0 ?round)
     case start => exact Nat.zero_le _
     case frame0 => ((try dsimp only [ZL, z0, z1]); repeat (first | exact LeF.nil | refine ZD (k := ?_)))
     case objs0 => simp
     case round =>
      rintro j q1
      dsimp only [ZL, z0, z1]
      by_cases hj : j < T.length
      ·obtain ⟨t1, t2, t3⟩ := hTc _ (List.getElem_mem hj)
       have cT := text_p T[j] t1 t2
       have hn := nums_keys (PC ++ PK ++ T.take j) (M := []) List.Pairwise.nil
       have hok : ∀ p ∈ (PC ++ PK ++ T.take j).foldl numS [], okS p.1 := nums_ok _ (fun x hx => by
        rcases List.mem_append.1 hx with hx | hx
        ·rcases List.mem_append.1 hx with hx | hx
         ·exact hPCo x hx
         ·exact hPKo x hx
        ·exact (hTc x (List.mem_of_mem_take hx)).2.2) (by simp)
       have ej : (PC ++ PK ++ T.take (j + 1)).foldl numS [] = numS ((PC ++ PK ++ T.take j).foldl numS []) T[j] := by
        rw [List.take_succ_eq_append_getElem hj, <- List.append_assoc, List.foldl_append]; rfl
       have hML := nums_len (PC ++ PK ++ T.take j) []
       rw [List.length_append, List.length_append, List.length_take, List.length_nil] at hML
       generalize (PC ++ PK ++ T.take j).foldl numS [] = M at *
       cases hs : (lookM M (txS T[j])).isSome with
       | true =>
        rw [show numS M T[j] = M from if_pos hs] at ej
        ((repeat' (first | (apply WL.opN; exact yF; dsimp only [ZB, z0, z1]) | refine WL.nil ?_ | refine ZA fun Kx hK => ?_ | (refine hK _ _ ?_; clear hK) | refine WC.region ?_ | (apply WL.opN; (focus ((first | (apply SY.call (cT) Tryz.call38; (exact aD)) | (refine SY.lookM2 (v := txS T[j]) ZBH keyT_S (OpD.t rfl) (.head _) (OpD.t rfl) isX t3 hok hn) | ((first | apply SY.move | apply SY.assign | apply SY.lss | apply SY.not) <;> (exact oD)) | ((first | apply SY.add) <;> first | exact oD | omega) | (apply SY.ix; (exact eD); (exact oD); (exact oD); exact kD) | (apply SY.extract; (exact oD); rfl) | fail); all_goals infer_instance)); dsimp only [ZB, z0, z1]) | (apply ZC; (exact oD); all_goals (intro h; try exact xD)) | (apply Zk; (exact oD); all_goals (intro h; try exact xD)) | refine WC.skip ?_ | refine WC.block ?_ | refine ThenD.n ?_)); all_goals (first | refine WL.id ?_ | ((repeat clear hK); (repeat clear Kx))))
        all_goals first | (exfalso; omega) | (exfalso; rw [hs] at h; cases h; done) | skip
        (refine ⟨j + 1 , ?_, by first | omega | (simp only; omega), by ((try simp only);  rw [ej]), ?_⟩; rotate_left; ((try dsimp only [ZL, z0, z1]); repeat (first | exact LeF.nil | refine ZD (k := ?_))); (try dsimp only))
        omega
       | false =>
        rw [show numS M T[j] = ZBP M (txS T[j]) (M.length : Int) from if_neg (by rw [hs]; decide)] at ej
        ((repeat' (first | (apply WL.opN; exact yF; dsimp only [ZB, z0, z1]) | refine WL.nil ?_ | refine ZA fun Kx hK => ?_ | (refine hK _ _ ?_; clear hK) | refine WC.region ?_ |  (refine WL.putMap (v := txS T[j]) (u := (M.length : Int)) ZBH keyT_S (OpD.t rfl) (OpD.t rfl) isX (OpD.t rfl) ⟨fun _ _ _ h => h⟩ t3 hok hn ?_; dsimp only [ZB, z0, z1]) | (apply WL.opN; (focus ((first | (apply SY.call (cT) Tryz.call38; (exact aD)) | (refine SY.lookM2 (v := txS T[j]) ZBH keyT_S (OpD.t rfl) (.head _) (OpD.t rfl) isX t3 hok hn) | (refine SY.lenM ZBH (OpD.t rfl) (.head _)) | ((first | apply SY.move | apply SY.assign | apply SY.lss | apply SY.not) <;> (exact oD)) | ((first | apply SY.add) <;> first | exact oD | omega) | (apply SY.ix; (exact eD); (exact oD); (exact oD); exact kD) | (apply SY.extract; (exact oD); rfl) | fail); all_goals infer_instance)); dsimp only [ZB, z0, z1]) | (apply ZC; (exact oD); all_goals (intro h; try exact xD)) | (apply Zk; (exact oD); all_goals (intro h; try exact xD)) | refine WC.skip ?_ | refine WC.block ?_ | refine ThenD.n ?_)); all_goals (first | ((repeat clear hK); (repeat clear Kx))))
        all_goals first | (exfalso; omega) | (exfalso; rw [hs] at h; cases h; done) | skip
        (refine ⟨j + 1 , ?_, by first | omega | (simp only; omega), by ((try simp only);  rw [ej]), ?_⟩; rotate_left; ((try dsimp only [ZL, z0, z1]); repeat (first | exact LeF.nil | refine ZD (k := ?_))); (try dsimp only))
        omega
      ·rw [List.take_of_length_le (by omega)]
       ((repeat' (first | (apply WL.opN; exact yF; dsimp only [ZB, z0, z1]) | refine WL.nil ?_ | refine ZA fun Kx hK => ?_ | (refine hK _ _ ?_; clear hK) | (refine Kont.skip ?_; clear hK) | refine WC.region ?_ | (apply WL.opN; (focus ((first | ((first | apply SY.move | apply SY.assign | apply SY.lss | apply SY.not) <;> (exact oD)) | ((first | apply SY.add) <;> first | exact oD | omega) | fail); all_goals infer_instance)); dsimp only [ZB, z0, z1]) | (apply ZC; (exact oD); all_goals (intro h; try exact xD)) | refine WC.exit ?_ | refine ThenD.n ?_)); all_goals (first | ((repeat clear hK); (repeat clear Kx))))
       (refine ⟨k + 1 , ?_, by first | omega | (simp only; omega), by ((try simp only);  rw [ek, List.append_assoc]), ?_⟩; rotate_left; ((try dsimp only [ZL, z0, z1]); repeat (first | exact LeF.nil | refine ZD (k := ?_))); (try dsimp only))
       omega
    ·have hke : k = l[i].length := by omega
     subst hke
     ((repeat' (first | (apply WL.opN; exact yF; dsimp only [ZB, z0, z1]) | refine WL.nil ?_ | refine ZA fun Kx hK => ?_ | (refine hK _ _ ?_; clear hK) | (refine Kont.skip ?_; clear hK) | refine WC.region ?_ | (apply WL.opN; (focus ((first | ((first | apply SY.move | apply SY.assign | apply SY.lss | apply SY.not) <;> (exact oD)) | ((first | apply SY.add) <;> first | exact oD | omega) | fail); all_goals infer_instance)); dsimp only [ZB, z0, z1]) | (apply ZC; (exact oD); all_goals (intro h; try exact xD)) | refine WC.exit ?_ | refine ThenD.n ?_)); all_goals (first | ((repeat clear hK); (repeat clear Kx))))
     all_goals first | (exfalso; omega) | skip
     (refine ⟨i + 1 , ?_, by first | omega | (simp only; omega), by ((try simp only);  rw [e]; rfl), ?_⟩; rotate_left; ((try dsimp only [ZL, z0, z1]); repeat (first | exact LeF.nil | refine ZD (k := ?_))); (try dsimp only))
     omega
  ·rw [List.take_of_length_le (by omega)]
   ((repeat' (first | (apply WL.opN; exact yF; dsimp only [ZB, z0, z1]) | refine WL.nil ?_ | refine ZA fun Kx hK => ?_ | (refine hK _ _ ?_; clear hK) | (refine Kont.skip ?_; clear hK) | refine WC.region ?_ | (apply WL.opN; (focus ((first | ((first | apply SY.move | apply SY.assign | apply SY.lss | apply SY.not) <;> (exact oD)) | fail); all_goals infer_instance)); dsimp only [ZB, z0, z1]) | (apply ZC; (exact oD); all_goals (intro h; try exact xD)) | refine WC.ret ?_ | refine WC.exit ?_)); all_goals (first | ((repeat clear hK); (repeat clear Kx))))
   refine ⟨trivial, _, rfl, ?_⟩
   exact FinD.mapN (.head _)
end
section
open Go.RowKit
structure SeqN (P : Program) (gf : FuncId) (lb : List Value) (hk : List HObj) {α : Type} (D : α -> Dat) (xs : List α) (N : Nat) : Prop where
 out : ∀ (l : Nat) (J : List α -> List HObj -> Prop), YStep P l D J N -> ∀ js, J [] js -> CallC P gf (dX (.func (.yield l) #[] #[]) :: lb.map dX) (js ++ hk) (fun _ hp2 => ∃ js', J xs js' /\ hp2 = js' ++ hk)
theorem wp_rangeN {P : Program} {g : Operand} {p : Tmp} {assign body : Code} {Q : Exit -> Act -> World -> Prop} {P0 : Nat -> Prop} {B : Nat} {w0 w : World} {a : Act} {fr : List Dat} {gf : FuncId} {lb : List Value} {hk hp hs0 : List HObj} {α : Type} {D : α -> Dat} {xs : List α} (H : List α -> List HObj -> Prop) (F0 : List Dat) (F1 : α -> List Dat)
  (hh : Hp P0 B w0 (hs0 ++ (hk ++ hp)) w) (hf : Fr (Imm P0 B (hs0 ++ (hk ++ hp))) w { tmps := a.tmps, defers := [] } fr) (hg : OpD fr g (dX (.func (.func gf) #[] lb.toArray))) (he : ZAG P gf) {N : Nat} (hS : SeqN P gf lb hk D xs N) (h0 : H [] hs0) (hF : FixF fr F0)
  (hassign : ∀ (l : Nat) (x : α) (q : List HObj), WR P l (fun e f q' => e = .normal /\ q' = q /\ f = F1 x) assign (F0.set p (D x)) q)
  (hbody : ∀ (l : Nat) (pre : List α) (x : α) (hs q : List HObj), pre.length < N -> H pre hs -> WR P l (fun e _ q' => e = .normal /\ ∃ hs', H (pre ++ [x]) hs' /\ q' = hs' ++ q) body (F1 x) (hs ++ q))
  (hpost : ∀ (k : Nat) (hs : List HObj) (w' : World), H xs hs -> Hp P0 B w0 (ZAW k (.deferred (some [])) :: (hs ++ (hk ++ hp))) w' -> (∀ (t : Nat) (d : Dat), fr[t]? = some d -> d.rd (Imm P0 B (ZAW k (.deferred (some [])) :: (hs ++ (hk ++ hp)))) w' (a.tmps.getD t undef)) ->
   Q .normal { a with defers := { target := .collected k, args := #[] } :: a.defers } w') : (Code.rangeFunc g #[p] assign body).wp P Q a w := by
 refine (wpIn_wide (n := 0)).1 (wpIn_rangeFunc ?_)
 intro fn hfn
 rw [show Fence.wide.round = none from rfl]
 obtain ⟨rec, hrec⟩ : ∃ rec : LoopState -> Option Code -> Loop, rec = fun st pe => { state := st, pending := pe, fn, tmps := a.tmps, params := #[p], assign, body, defers := w.heap.size } := ⟨_, rfl⟩
 obtain ⟨W1, hW1⟩ : ∃ W1, (w.alloc (.deferred (some []))).alloc (.loop (rec .ready none)) = W1 := ⟨_, rfl⟩
 have hgb : (hFr a fr).blk = none := rfl
 have hG : Hp P0 B w0 (hs0 ++ (hk ++ (hFr a fr :: hp))) w := by
  have := ZAo (l := hs0 ++ hk) (hp := hp) hgb (by rw [List.append_assoc]; exact hh) (by rw [List.append_assoc]; exact hf.rd)
  rw [List.append_assoc] at this
  exact this
 have hA : Hp P0 B w0 (ZAW w.heap.size (.deferred (some [])) :: (hs0 ++ (hk ++ (hFr a fr :: hp)))) (w.alloc (.deferred (some []))) :=
  hG.push (Ext.of_alloc _ _) (fun k hk => by cases hk; simp) (World.alloc_heap_new w _)
 have hB : Hp P0 B w0 (ZAW (w.heap.size + 1) (.loop (rec .ready none)) :: ZAW w.heap.size (.deferred (some [])) :: (hs0 ++ (hk ++ (hFr a fr :: hp)))) W1 := by
  rw [<- hW1]
  refine hA.push (Ext.of_alloc _ _) (fun k hk => by cases hk; simp) ?_
  have := World.alloc_heap_new (w.alloc (.deferred (some []))) (.loop (rec .ready none))
  rwa [World.size_alloc] at this
 have hJ0 : (∃ hs, H [] hs /\ (ZAW (w.heap.size + 1) (.loop (rec .ready none)) :: ZAW w.heap.size (.deferred (some [])) :: hs0) = ZAW (w.heap.size + 1) (.loop (rec .ready none)) :: ZAW w.heap.size (.deferred (some [])) :: hs) := ⟨hs0, h0, rfl⟩
 have hY : YStep P (w.heap.size + 1) D (fun pre js => ∃ hs, H pre hs /\ js = ZAW (w.heap.size + 1) (.loop (rec .ready none)) :: ZAW w.heap.size (.deferred (some [])) :: hs) N := ⟨fun P0' B' w0' hpX pre js x u W hlt ⟨hs, hH, hjs⟩ hhW hu => by
  subst hjs
  have hl : W.heap[w.heap.size + 1]? = some (.loop (rec .ready none)) := hhW.ok (ZAW (w.heap.size + 1) (.loop (rec .ready none))) (by simp)
  have hy := run_yield (P := P) (args := #[u]) hl (by rw [hrec]; simp)
  refine ⟨_, _, _, _, hy, roundIn_of_wpIn trivial ?_⟩
  have ha : (rec .ready none).assign = assign := by rw [hrec]
  have hbd : (rec .ready none).body = body := by rw [hrec]
  have ht : (rec .ready none).params = #[p] := by rw [hrec]
  have htm : (rec .ready none).tmps = a.tmps := by rw [hrec]
  rw [ha, hbd, ht, htm]
  have hfrR : Fr (Imm P0' B' (ZAW (w.heap.size + 1) (.loop (rec .ready none)) :: ZAW w.heap.size (.deferred (some [])) :: hs ++ hpX)) W { tmps := a.tmps.setIfInBounds p u, defers := [] } (F0.set p (D x)) :=
   Fr.put (x := some p) (hF.fr hf) hu
  refine wpIn_mono (Q := ZBv (fun e f q' => e = .normal /\ q' = ZAW (w.heap.size + 1) (.loop (rec .ready none)) :: ZAW w.heap.size (.deferred (some [])) :: hs ++ hpX /\ f = F1 x) P0' B' w0') ?_ ?_
  ·exact (hassign (w.heap.size + 1) x _).out P0' B' w0' W _ hhW (by simpa using hfrR)
  rintro e a1 w1 ⟨f1, q1, ⟨rfl, rfl, rfl⟩, hh1, hf1⟩
  have hl1 : w1.heap[w.heap.size + 1]? = some (.loop (rec .ready none)) := hh1.ok (ZAW (w.heap.size + 1) (.loop (rec .ready none))) (by simp)
  refine ⟨_, run_beginRound hl1 (by rw [hrec]), ?_⟩
  have hbz : ({ rec .ready none with state := .busy } : Loop) = rec .busy none := by rw [hrec]
  rw [hbz]
  have hh2 : Hp P0' B' w0' (ZAW (w.heap.size + 1) (.loop (rec .busy none)) :: (ZAW w.heap.size (.deferred (some [])) :: (hs ++ hpX))) (w1.putObj (w.heap.size + 1) (.loop (rec .busy none))) := Hp.putObj (o := .loop (rec .ready none)) hh1
  have hf2 : Fr (Imm P0' B' (ZAW (w.heap.size + 1) (.loop (rec .busy none)) :: (ZAW w.heap.size (.deferred (some [])) :: (hs ++ hpX)))) (w1.putObj (w.heap.size + 1) (.loop (rec .busy none))) a1 (F1 x) := hf1.mono fun d v hd => ZAH (o := .loop (rec .ready none)) hd
  obtain ⟨hh3, hI3⟩ := hh2.perm ZCD
  refine wpIn_mono ((hbody (w.heap.size + 1) pre x hs _ hlt hH).out P0' B' w0' _ _ hh3 (hf2.mono fun d v hd => d.weak hd fun k hk => (hI3 k).1 hk)) ?_
  rintro e a3 w3 ⟨f3, q3, ⟨rfl, hs', hH', rfl⟩, hh4, hf4⟩
  obtain ⟨hh5, _⟩ := hh4.perm ZCD.symm
  have hl3 : w3.heap[w.heap.size + 1]? = some (.loop (rec .busy none)) := hh5.ok (ZAW (w.heap.size + 1) (.loop (rec .busy none))) (by simp)
  have hrz : ({ rec .busy none with state := if (none : Option Code).isNone then .ready else .done, pending := none } : Loop) = rec .ready none := by rw [hrec]; rfl
  have hend := run_endRound (P := P) none hl3
  rw [hrz] at hend
  refine ⟨_, _, hend, rfl, _, ⟨hs', hH', rfl⟩, ?_⟩
  exact Hp.putObj (o := .loop (rec .busy none)) hh5⟩
 have hC := (hS.out (w.heap.size + 1) _ hY _ hJ0).out P0 B w0 (hFr a fr :: hp) (.func (.yield (w.heap.size + 1)) #[] #[] :: lb) W1 (by simpa using hB) (by simp) (fun i d hd => by
  cases i with
  | zero => simp at hd; subst hd; rfl
  | succ i =>
   simp only [List.getElem?_cons_succ, List.getElem?_map] at hd
   cases hq : lb[i]? with
   | none => rw [hq] at hd; cases hd
   | some u => rw [hq] at hd; cases hd; simp [List.getD, hq]; rfl)
 refine ⟨w.heap.size + 1, [{ target := .collected w.heap.size, args := #[] }], W1, { target := .fn (.func gf) lb.toArray, args := #[.func (.yield (w.heap.size + 1)) #[] #[]] }, W1, gf,
  (.func (.yield (w.heap.size + 1)) #[] #[] :: lb).toArray, W1, ?_, ?_, fun _ _ => trivial, ?_, fun h => by simp [Fence.wide] at h, ?_⟩
 ·rw [<- hW1, hrec]; exact run_enterLoop_outer _ _ _ _ _
 ·have hev0 : ({ tmps := a.tmps, defers := [] } : Act).eval g = .func (.func gf) #[] lb.toArray := hg.ev hf
  have hev : a.eval g = .func (.func gf) #[] lb.toArray := hev0
  simp only [resolve, hev]
  simp [go_sem]
 ·have := he (.func (.yield (w.heap.size + 1)) #[] #[] :: lb).toArray W1
  simp [invoke, go_sem, this]
 ·refine callsIn_wide.2 (hC.mono ?_)
  rintro e w2 ⟨v, d, hp2, rfl, ⟨js', ⟨hs, hH, rfl⟩, rfl⟩, hh2, _⟩
  have hl2 : w2.heap[w.heap.size + 1]? = some (.loop (rec .ready none)) := hh2.ok (ZAW (w.heap.size + 1) (.loop (rec .ready none))) (by simp)
  have hend := run_endLoop (P := P) hl2 (by rw [hrec]; simp)
  have hpn : (rec .ready none).pending = none := by rw [hrec]
  obtain ⟨rx, hrx⟩ : ∃ rx : Loop, rx = { rec .ready none with state := .exhausted } := ⟨_, rfl⟩
  rw [<- hrx, hpn] at hend
  refine ⟨none, _, hend, ?_⟩
  have hh3 : Hp P0 B w0 (ZAW (w.heap.size + 1) (.loop rx) :: (ZAW w.heap.size (.deferred (some [])) :: (hs ++ (hk ++ (hFr a fr :: hp))))) (w2.putObj (w.heap.size + 1) (.loop rx)) :=
   Hp.putObj (o := .loop (rec .ready none)) (by simpa using hh2)
  have hh4 := hh3.drop
  have hh5 : Hp P0 B w0 ((ZAW w.heap.size (.deferred (some [])) :: (hs ++ hk)) ++ hFr a fr :: hp) (w2.putObj (w.heap.size + 1) (.loop rx)) := by simpa using hh4
  obtain ⟨hh6, hok⟩ := hh5.unghost hgb
  have e1 : (ZAW w.heap.size (.deferred (some [])) :: (hs ++ hk)) ++ hp = ZAW w.heap.size (.deferred (some [])) :: (hs ++ (hk ++ hp)) := by simp
  rw [e1] at hh6 hok
  have := hpost w.heap.size hs _ hH hh6 hok
  simpa using this
end
end Go.Proofs.YtmcllakdbgnfiaaGreatDoor
