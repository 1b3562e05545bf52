/- Part 31: walks by contracts, and plain laws. -/
import Derived.Test.YtmcllakdbgnfiaaGreatDoorVg30
set_option linter.unusedVariables false
set_option linter.unusedSimpArgs false
set_option linter.unusedSectionVars false
set_option maxRecDepth 100000
set_option maxHeartbeats 4000000
namespace Go.Proofs.YtmcllakdbgnfiaaGreatDoor
section
open Go.RowKit

theorem elRo : ElT Tryz.prog 59 51 1 (.slice none 0 0) 24 false := ⟨Tryz.underlying59, by kernel_rfl, Tryz.isAgg51, rfl⟩
theorem tyIn : TyI Tryz.prog 51 1 false := ⟨by kernel_rfl, Tryz.isAgg51⟩
abbrev apI (b : Nat) (xs : List (List Int)) (hs : List HObj) : Prop := ∃ sv, hs = [ZO b 59 1 false (dX sv), ZU sv 51 ZCE xs]
theorem tyRo : TyI Tryz.prog 59 1 false := ⟨by kernel_rfl, Tryz.isAgg59⟩
set_option maxRecDepth 100000 in
set_option maxHeartbeats 8000000 in
theorem appendSeqI_c {gf : FuncId} {lb : List Value} {hk : List HObj} {xs : List (List Int)} (he : ZAG Tryz.prog gf) (hS : SeqC Tryz.prog gf lb hk (fun x => dS ZCE x) xs) (hl : xs.length <= 1000000) :
  CallC Tryz.prog 109 ([dX (.slice none 0 0), dX (.func (.func gf) #[] lb.toArray)] ++ ([] : List Value).map dX) hk (fun d hp2 => ∃ v, d = dX v /\ hp2 = ZU v 51 ZCE xs :: hk) := ⟨fun P0 B w0 hp vs W hh hl0 hv => by
 refine (callsIn_wide (n := 0)).1 (callsIn_of_wp_marks Tryz.func109 rfl trivial ?_ rfl)
 refine wpIn_wide.2 ?_
 have hf0 := ZAg (m := 11) hl0 hv
 have hsz : vs.toArray.size = 2 := by simpa using hl0
 rw [hsz]
 have hnt : Tryz.f109.ntmps = 13 := rfl
 rw [hnt]
 simp only [List.length_cons, List.length_nil, Nat.reduceAdd, Nat.reduceSub, List.replicate_succ, List.replicate_zero, List.cons_append, List.nil_append, List.map_nil] at hf0 ⊢
 refine wp_seq (Code.wp_mono ?_ (WC.on (Q := fun e f q => e = .normal /\ ∃ b, f = [dX (.slice none 0 0), dX (.func (.func gf) #[] lb.toArray), dX (.pointer (some ⟨b, 0, none⟩)), dX undef, dX (.slice none 0 0), dX undef, dX undef, dX undef, dX undef, dX undef, dX undef, dX undef, dX undef] /\ q = [ZO b 59 1 false (dX (.slice none 0 0)), ZU (.slice none 0 0) 51 ZCE []] ++ (hk ++ hp)) ?_ hh hf0))
 rotate_left
 ·refine WC.region ?_
  refine ZAk 51 ZCE ?_
  refine WL.boxC (OpD.t rfl) (ZW rfl) fun b => ?_
  dsimp only [ZB, z0, z1]
  refine WL.op rfl (SY.assign OpD.x) (WL.nil ?_)
  exact ⟨rfl, b, rfl, rfl⟩
 rintro e a1 w1 ⟨f1, q1, ⟨rfl, b, rfl, rfl⟩, hh1, hf1⟩
 show Code.wp _ _ _ _ _
 refine wp_seq ?_
 refine wp_seq (Code.wp_mono ?_ (WC.on (Q := fun e f q => e = .normal /\ f = [dX (.slice none 0 0), dX (.func (.func gf) #[] lb.toArray), dX (.pointer (some ⟨b, 0, none⟩)), dX undef, dX (.slice none 0 0), dX undef, dX (.func (.func gf) #[] lb.toArray), dX undef, dX undef, dX undef, dX undef, dX undef, dX undef] /\ q = [ZO b 59 1 false (dX (.slice none 0 0)), ZU (.slice none 0 0) 51 ZCE []] ++ (hk ++ hp)) ?_ hh1 hf1))
 rotate_left
 ·refine WC.region ?_
  refine WL.op rfl (SY.move (OpD.t rfl)) (WL.nil ?_)
  exact ⟨rfl, rfl, rfl⟩
 rintro e a2 w2 ⟨f2, q2, ⟨rfl, rfl, rfl⟩, hh2, hf2⟩
 show Code.wp _ _ _ _ _
 refine wp_block ?_
 refine wp_rangeC (hs0 := [_, _]) (hk := hk) (hp := hp) (xs := xs) (D := fun x => dS ZCE x) (apI b) _ (fun x => [dX (.slice none 0 0), dX (.func (.func gf) #[] lb.toArray), dX (.pointer (some ⟨b, 0, none⟩)), dX undef, dX (.slice none 0 0), dS ZCE x, dX (.func (.func gf) #[] lb.toArray), dS ZCE x, dX undef, dX undef, dX undef, dX undef, dX undef]) hh2 hf2 (OpD.t rfl) he hS ⟨_, rfl⟩ (by repeat (first | exact FixF.nil | apply FixF.x)) ?_ ?_ ?_
 ·intro l x q
  refine WR.region rfl (I.WL.op rfl (SY.assign (OpD.t rfl)) (I.WL.nil ⟨rfl, rfl, rfl⟩))
 ·rintro l pre x hs q hlt ⟨sv, rfl⟩
  refine WR.block (WR.region rfl ?_)
  refine I.WL.op rfl (ZAE tyRo (OpD.t rfl) (.head _)) ?_
  dsimp only [ZB, z0, z1, List.cons_append, List.nil_append]
  refine I.WL.op rfl (SY.move (OpD.t rfl)) ?_
  dsimp only [ZB, z0, z1]
  refine I.WL.perm (List.Perm.swap _ _ _) (I.WL.push1 elRo (OpD.t rfl) (OpD.t rfl) (fun _ => ZBT) (by simp) (by simp) (by decide) (by omega) fun v' => ?_)
  dsimp only [ZB, z0, z1]
  refine I.ZBc (.head _) fun ⟨ad, c, hv'⟩ => ?_
  refine I.WL.perm (List.Perm.swap _ _ _) (I.WL.storeK tyRo (OpD.t rfl) (OpD.t rfl) (ZW (by rw [hv']; rfl)) (I.WL.nil ?_))
  exact ⟨rfl, _, ⟨v', rfl⟩, rfl⟩
 ·rintro k hs w3 ⟨sv, rfl⟩ hh3 hrd
  show Code.wp _ _ _ _ _
  have hf3 : Fr (Imm P0 B (ZAW k (.deferred (some [])) :: ([ZO b 59 1 false (dX sv), ZU sv 51 ZCE xs] ++ (hk ++ hp)))) w3 { tmps := a2.tmps, defers := [] } _ := ⟨rfl, hf2.size, hrd⟩
  refine wp_seq (wp_region_lit ?_)
  refine ZA1 rfl (ZAE tyRo (OpD.t rfl) (.tail _ (.head _))) hh3 hf3 fun a4 w4 hd4 hh4 hf4 => ?_
  refine ZA1 rfl (SY.assign (OpD.t rfl)) hh4 hf4 fun a5 w5 hd5 hh5 hf5 => ?_
  refine wpList_nil ?_
  show Code.wp _ _ _ _ _
  refine wp_ret ?_
  show LeavesInM _ _ _ _ _ _ _ _ _
  rw [hd5, hd4, hf2.defers]
  have hK : w5.heap[k]? = some (.deferred (some [])) := hh5.ok (ZAW k (.deferred (some []))) (by simp)
  refine ⟨by simp, .inl ⟨_, _, rfl, run_takeDeferred hK, _, results_tmp rfl _ _ _, ?_⟩⟩
  have hh6 := (Hp.putObj (o' := .deferred none) hh5).drop.drop
  exact ⟨_, dX sv, ZU sv 51 ZCE xs :: hk, rfl, ⟨sv, rfl, rfl⟩, hh6, hf5.rd 4 _ rfl⟩⟩
theorem collectI_c {gf : FuncId} {lb : List Value} {hk : List HObj} {xs : List (List Int)} (he : ZAG Tryz.prog gf) (hS : SeqC Tryz.prog gf lb hk (fun x => dS ZCE x) xs) (hl : xs.length <= 1000000) :
  CallC Tryz.prog 66 ([dX (.func (.func gf) #[] lb.toArray)] ++ ([] : List Value).map dX) hk (fun d hp2 => ∃ v, d = dX v /\ hp2 = ZU v 51 ZCE xs :: hk) := by
 (refine Zw Tryz.func66 rfl rfl (fun hp => ?_); simp only [Tryz.ntmps66, List.length_cons, List.length_nil, List.length_append, List.length_map, Nat.reduceAdd, Nat.reduceSub, List.replicate_succ, List.replicate_zero, List.cons_append, List.nil_append, List.map_cons, List.map_nil, List.append_assoc])
 ((repeat' (first | (apply WL.opN; exact yF; dsimp only [ZB, z0, z1]) | refine WL.nil ?_ | refine ZA fun Kx hK => ?_ | (refine hK _ _ ?_; clear hK) | refine WC.region ?_ |  (refine WL.callC (caps := []) (appendSeqI_c he hS hl) Tryz.call109 OpD.f (by (exact aD)) ?_; rintro d' hp2 ⟨v, rfl, rfl⟩; dsimp only [ZB, z0, z1, List.cons_append, List.nil_append]) | refine WC.ret ?_)); all_goals (first | ((repeat clear hK); (repeat clear Kx))))
 exact ⟨trivial, _, _ :: hk, rfl, rfl, v, rfl, rfl⟩


theorem SeqC.map {P : Program} {gf : FuncId} {lb : List Value} {hk : List HObj} {α β : Type} {D : α -> Dat} {D' : β -> Dat} {xs : List α} (h : SeqC P gf lb hk D xs) (g : α -> β) (hle : ∀ x, (D x).le (D' (g x))) : SeqC P gf lb hk D' (xs.map g) := ⟨fun l J hY js hj =>
 h.out l (fun pre => J (pre.map g)) ⟨fun P0 B w0 hp pre js x u W hlt hj hh hu => by
  have := hY.out P0 B w0 hp (pre.map g) js (g x) u W (by simpa using hlt) hj hh (hle x _ _ _ hu)
  rw [List.map_append]
  exact this⟩ js (by simpa using hj)⟩
def partP (n : Int) : List (List Int) × Int := if n < 1 \/ 5 < n then ([], 2) else ((ZBw (2 ^ n.toNat - 1)).map ZAA, 0)
theorem le_dIf {c : Prop} {d : Dat} : (dIf c d).le d := fun _ _ _ h => h.2
set_option maxHeartbeats 4000000 in
theorem partitions_p (n : Int) : Fn Tryz.prog 28 [dI n] (dT [dS Rows (partP n).1, dI (partP n).2]) := by
 by_cases hn : n < 1 \/ 5 < n
 ·have e : partP n = ([], 2) := if_pos hn
  rw [e]
  (refine ZAa Tryz.func28 rfl rfl ?_; simp only [Tryz.ntmps28, List.length_cons, List.length_nil, Nat.reduceAdd, Nat.reduceSub, List.replicate_succ, List.replicate_zero, List.cons_append, List.nil_append])
  ((repeat' (first | (apply WL.opN; exact yF; dsimp only [ZB, z0, z1]) | refine WL.nil ?_ | refine ZA fun Kx hK => ?_ | (refine hK _ _ ?_; clear hK) | refine WC.region ?_ | (apply ZJ; (focus (first | exact wN | (apply ZG; (exact wY); ((first | ((first | apply SY.move | apply SY.assign | apply SY.lss | apply SY.gtr) <;> (exact oD)) | (apply ZAJ; (exact oD); (with_reducible rfl); (exact oD)) | (apply Z6; (exact oD); (with_reducible rfl); (exact oD)) | fail); all_goals infer_instance)))); dsimp only [ZB, z0, z1]) | ((first | refine Zd rfl rfl rfl (fun h => ?_) (fun h => ?_) | refine Zc rfl rfl rfl (fun h => ?_) (fun h => ?_) | refine ZY rfl rfl rfl (fun h => ?_) (fun h => ?_)) <;> (first | (exfalso; first | omega | contradiction) | (dsimp only [z0, z1]))) | (apply ZBG; (exact oD); (with_reducible rfl)) | (apply ZC; (exact oD); all_goals (intro h; try exact xD)) | refine WC.ret ?_ | refine ThenD.r ?_)); all_goals (first | ((repeat clear hK); (repeat clear Kx))))
  all_goals try (exfalso; first | contradiction | omega)
  all_goals (refine ⟨trivial, ⟨_, rfl, ?_⟩, _, rfl, ?_⟩ <;> exact fD)
 ·have e : partP n = ((ZBw (2 ^ n.toNat - 1)).map ZAA, 0) := if_neg hn
  rw [e]
  obtain ⟨m, rfl⟩ := Int.eq_ofNat_of_zero_le (show 0 <= n by omega)
  rw [show ((m : Int)).toNat = m from rfl]
  have hpw : ∀ n : Fin 6, 0 < n.val -> ((2 ^ n.val - 1 : Nat) ≠ 0 /\ (2 ^ n.val - 1 : Nat) < 32) := by decide
  obtain ⟨hp0, hp1⟩ := hpw ⟨m, by omega⟩ (by simp only; omega)
  simp only at hp0 hp1
  have hshl := ishl_pow ⟨m, by omega⟩
  simp only at hshl
  have hol := ord_len m (by omega)
  (refine ZAa Tryz.func28 rfl rfl ?_; simp only [Tryz.ntmps28, List.length_cons, List.length_nil, Nat.reduceAdd, Nat.reduceSub, List.replicate_succ, List.replicate_zero, List.cons_append, List.nil_append])
  ((repeat' (first | (apply WL.opN; exact yF; dsimp only [ZB, z0, z1]) | refine WL.nil ?_ | refine ZA fun Kx hK => ?_ | (refine hK _ _ ?_; clear hK) | refine WC.region ?_ |  (refine WL.callC (hp1 := []) (caps := []) (ordered_k (2 ^ m - 1)) Tryz.call67 OpD.f (by (exact aD)) ?_; rintro d' hp2 ⟨vr, rfl, rfl⟩; dsimp only [ZB, z0, z1, List.cons_append, List.nil_append]) |  (refine WL.callC (caps := []) (collectI_c Tryz.call110 ((oseq_c (2 ^ m - 1) hp0 hp1 vr).map ZAA fun x => le_dIf) (by rw [List.length_map]; omega)) Tryz.call66 OpD.f (by (exact aD)) ?_; rintro d' hp2 ⟨v, rfl, rfl⟩; dsimp only [ZB, z0, z1, List.cons_append, List.nil_append]) | (apply ZJ; (focus (first | exact wN | (apply ZG; (exact wY); ((first | (exact SY.shlE hshl (by omega) OpD.i (OpD.t rfl)) | (refine SY.subE (c := ((2 ^ m - 1 : Nat) : Int)) (by omega) (by omega) (OpD.t rfl) OpD.i) | ((first | apply SY.move | apply SY.assign | apply SY.lss | apply SY.gtr) <;> (exact oD)) | (apply Z6; (exact oD); (with_reducible rfl); (exact oD)) | fail); all_goals infer_instance)))); dsimp only [ZB, z0, z1]) | ((first | refine Zd rfl rfl rfl (fun h => ?_) (fun h => ?_) | refine Zc rfl rfl rfl (fun h => ?_) (fun h => ?_) | refine ZY rfl rfl rfl (fun h => ?_) (fun h => ?_)) <;> (first | (exfalso; first | omega | contradiction) | (dsimp only [z0, z1]))) | (apply ZC; (exact oD); all_goals (intro h; try exact xD)) | refine WC.skip ?_ | refine WC.ret ?_)); all_goals (first | ((repeat clear hK); (repeat clear Kx))))
  all_goals try (exfalso; first | contradiction | omega)
  (refine ⟨trivial, ⟨_, rfl, ?_⟩, _, rfl, ?_⟩ <;> exact fD)
theorem divN_lt {n : Nat} : ∀ (bl : List Nat) (all : Nat), divN n bl all -> ∀ b ∈ bl, b < 2 ^ n
 | [], _, _ => fun _ h => by cases h
 | b :: bl, all, h => fun c hc => by
  rcases List.mem_cons.1 hc with rfl | hc
  ·exact h.1
  ·exact divN_lt bl _ h.2.2 c hc
set_option maxHeartbeats 8000000 in
theorem facetP_p (s : List Vx) (l : List Int) : Fn Tryz.prog 29 [dS ZF s, dS ZCE l] (dT [dS ZF (facetP s l).1, dI (facetP s l).2]) := by
 have hc := chromatic_p s
 by_cases h0 : chroP s = 0
 ·rw [h0] at hc
  have hs : Zn s = 0 := Classical.byContradiction fun q => by unfold chroP at h0; rw [if_pos q] at h0; exact q h0
  have hd : Zy s = true := by
   unfold chroP at h0
   rw [if_neg (by simp [hs])] at h0
   cases h : Zy s
   ·rw [h] at h0; simp at h0
   ·rfl
  have h8 := ZM.1 hs
  have e : facetP s l = if divP l ((2 ^ s.length - 1 : Nat) : Int) = false then ([], 15) else (placeP s (natsB l), 0) := by
   unfold facetP
   rw [if_neg (by simp [hs]), if_neg (by simp [hd])]
  have hshl := ishl_pow ⟨s.length, by omega⟩
  simp only at hshl
  have hpos := Nat.two_pow_pos s.length
  have hp9 : (2 ^ s.length : Nat) <= 512 := Nat.pow_le_pow_right (n := 2) (by decide) (show s.length <= 9 by omega)
  rw [e]
  (refine ZAa Tryz.func29 rfl rfl ?_; simp only [Tryz.ntmps29, List.length_cons, List.length_nil, Nat.reduceAdd, Nat.reduceSub, List.replicate_succ, List.replicate_zero, List.cons_append, List.nil_append])
  (first | refine ZR (t := 1) rfl le_K fun hl1 => ?_ | refine ZR (t := 1) rfl le_A fun hl1 => ?_ | refine ZR (t := 1) rfl le_C fun hl1 => ?_); simp only [maxLen] at hl1
  (repeat' (first | (apply WL.opN; exact yF; dsimp only [ZB, z0, z1]) | refine WL.nil ?_ | refine ZA fun Kx hK => ?_ | (refine hK _ _ ?_; clear hK) | refine WC.region ?_ | (apply ZJ; (focus (first | exact wN | (apply ZG; (exact wY); ((first | (apply SY.call (hc) Tryz.call68; (exact aD)) | (exact SY.shlE hshl (by omega) OpD.i (OpD.t rfl)) | (refine SY.subE (c := ((2 ^ s.length - 1 : Nat) : Int)) (by omega) (by omega) (OpD.t rfl) OpD.i) | ((first | apply SY.move | apply SY.assign | apply SY.lss | apply SY.leq | apply SY.neq | apply SY.and | apply SY.andNot) <;> (exact oD)) | (apply SY.len; (exact oD); (exact nD); (exact uD)) | fail); all_goals infer_instance)))); dsimp only [ZB, z0, z1]) | (apply ZH; (exact oD); all_goals (intro h; try exact xD)) | refine WC.skip ?_ | refine WC.block ?_))
  all_goals try (exfalso; first | contradiction | omega)
  (refine WC.loopU (X := Nat × Int) (fun x => [(21, dI (x.1 : Int)), (7, dI x.2), (4, dA), (5, dA), (9, dA), (22, dA), (23, dA), (24, dA), (25, dA), (26, dA), (27, dA), (28, dA), (29, dA), (30, dA), (31, dA), (32, dA), (33, dA), (34, dA), (35, dA), (36, dA), (37, dA)]) (fun x => []) (fun x => l.length - x.1) (fun x => x.1 <= l.length /\ divP l ((2 ^ s.length - 1 : Nat) : Int) = divP (l.drop x.1) x.2) (0, ((2 ^ s.length - 1 : Nat) : Int)) ?start ?frame0 ?objs0 ?round)
  case start => exact ⟨Nat.zero_le _, rfl⟩
  case frame0 => ((try dsimp only [ZL, z0, z1]); repeat (first | exact LeF.nil | refine ZD (k := ?_)))
  case objs0 => rfl
  case round =>
   rintro ⟨k, r⟩ ⟨k1, k2⟩
   simp only at k1 k2
   dsimp only [ZL, z0, z1]
   by_cases hk : k < l.length
   ·rw [List.drop_eq_getElem_cons hk] at k2
    ((repeat' (first | (apply WL.opN; exact yF; dsimp only [ZB, z0, z1]) | refine WL.nil ?_ | refine ZA fun Kx hK => ?_ | (refine hK _ _ ?_; clear hK) | refine WC.region ?_ | (apply ZJ; (focus (first | exact wN | (apply ZG; (exact wY); ((first | ((first | apply SY.move | apply SY.assign | apply SY.lss | apply SY.leq | apply SY.neq | apply SY.and | apply SY.andNot) <;> (exact oD)) | ((first | apply SY.add | apply SY.sub) <;> first | exact oD | omega) | (apply SY.ix; (exact eD); (exact oD); (exact oD); exact kD) | (apply ZAJ; (exact oD); (with_reducible rfl); (exact oD)) | (apply Z6; (exact oD); (with_reducible rfl); (exact oD)) | fail); all_goals infer_instance)))); dsimp only [ZB, z0, z1]) | ((first | refine Zd rfl rfl rfl (fun h => ?_) (fun h => ?_) | refine Zc rfl rfl rfl (fun h => ?_) (fun h => ?_) | refine ZY rfl rfl rfl (fun h => ?_) (fun h => ?_)) <;> (first | (exfalso; first | omega | contradiction) | (dsimp only [z0, z1]))) | (apply ZBG; (exact oD); (with_reducible rfl)) | (apply ZC; (exact oD); all_goals (intro h; try exact xD)) | (apply ZH; (exact oD); all_goals (intro h; try exact xD)) | refine WC.skip ?_ | refine WC.ret ?_ | refine WC.block ?_ | refine ThenD.n ?_ | refine ThenD.r ?_ | refine InBlockD.r ?_)); all_goals (first | ((repeat clear hK); (repeat clear Kx))))
    all_goals try (exfalso; first | contradiction | omega)
    ·have hf : divP l ((2 ^ s.length - 1 : Nat) : Int) = false := by rw [k2]; exact if_pos (.inl (by assumption))
     (refine ⟨trivial, ⟨_, rfl, ?_⟩, _, rfl, ?_⟩ <;> (first | refine FinD.i ?_ | refine ZBe (by decide) ?_))
     all_goals rw [if_pos hf]
    ·have hf : divP l ((2 ^ s.length - 1 : Nat) : Int) = false := by rw [k2]; exact if_pos (.inr (by assumption))
     (refine ⟨trivial, ⟨_, rfl, ?_⟩, _, rfl, ?_⟩ <;> (first | refine FinD.i ?_ | refine ZBe (by decide) ?_))
     all_goals rw [if_pos hf]
    ·have hf : divP (l[k] :: l.drop (k + 1)) r = divP (l.drop (k + 1)) (iandnot r l[k]) := if_neg (by
      rintro (q | q)
      ·exact (show ¬ l[k] <= 0 by assumption) q
      ·exact q (by assumption))
     (refine ⟨(k + 1, iandnot r l[k]), ?_, by first | omega | (simp only; omega), rfl, ?_⟩; rotate_left; ((try dsimp only [ZL, z0, z1]); repeat (first | exact LeF.nil | refine ZD (k := ?_))); (try dsimp only))
     exact ⟨by omega, by rw [k2, hf]⟩
   ·have hkl : k = l.length := by omega
    rw [hkl, List.drop_length] at k2
    by_cases hr : r = 0
    ·have ht : divP l ((2 ^ s.length - 1 : Nat) : Int) = true := by rw [k2]; exact decide_eq_true hr
     have hdR := div_same (n := s.length) (by omega) l
     rw [ht] at hdR
     obtain ⟨bl, hbl0, hdn⟩ := div_N (n := s.length) (by omega) l 0 (Nat.two_pow_pos _) hdR
     have hbl : l = ZAA bl := hbl0
     have hbb : ∀ b ∈ bl, b < 1048576 := fun b hb => by have := divN_lt bl 0 hdn b hb; omega
     have hfa := facet_p (fun _ => True) (fun m => (m : Int)) s bl (by omega) hbb (fun _ _ => trivial)
     have hpl : placeP s (natsB l) = Zh (fun m => (m : Int)) s bl := by rw [hbl]; exact congrArg (placeP s) (nats_cast bl)
     rw [<- hbl] at hfa
     ((repeat' (first | (apply WL.opN; exact yF; dsimp only [ZB, z0, z1]) | refine WL.nil ?_ | refine ZA fun Kx hK => ?_ | (refine hK _ _ ?_; clear hK) | (refine Kont.skip ?_; clear hK) | refine WC.region ?_ | (apply ZJ; (focus (first | exact wN | (apply ZG; (exact wY); ((first | (apply SY.call hfa Tryz.call69; exact ArgsD.cons (OpD.t rfl) (ArgsD.cons (OpD.t rfl) (ArgsD.cons ⟨le_fun Tryz.call70 fun m => itself_p ((m.1 : Nat) : Int)⟩ ArgsD.nil))) | ((first | apply SY.move | apply SY.assign | apply SY.lss | apply SY.leq | apply SY.neq | apply SY.and | apply SY.andNot) <;> (exact oD)) | fail); all_goals infer_instance)))); dsimp only [ZB, z0, z1]) | (apply ZC; (exact oD); all_goals (intro h; try exact xD)) | (apply ZH; (exact oD); all_goals (intro h; try exact xD)) | refine WC.skip ?_ | refine WC.ret ?_ | refine WC.exit ?_)); all_goals (first | ((repeat clear hK); (repeat clear Kx))))
     all_goals try (exfalso; first | contradiction | omega)
     (refine ⟨trivial, ⟨_, rfl, ?_⟩, _, rfl, ?_⟩ <;> (first | refine FinD.i ?_ | refine FinD.s ?_))
     all_goals rw [if_neg (by rw [ht]; decide)]
     all_goals first | rfl | exact hpl.symm
    ·have hf : divP l ((2 ^ s.length - 1 : Nat) : Int) = false := by rw [k2]; exact decide_eq_false hr
     ((repeat' (first | (apply WL.opN; exact yF; dsimp only [ZB, z0, z1]) | refine WL.nil ?_ | refine ZA fun Kx hK => ?_ | (refine hK _ _ ?_; clear hK) | (refine Kont.skip ?_; clear hK) | refine WC.region ?_ | (apply ZJ; (focus (first | exact wN | (apply ZG; (exact wY); ((first | ((first | apply SY.move | apply SY.assign | apply SY.lss | apply SY.leq | apply SY.neq | apply SY.and | apply SY.andNot) <;> (exact oD)) | fail); all_goals infer_instance)))); dsimp only [ZB, z0, z1]) | (apply ZC; (exact oD); all_goals (intro h; try exact xD)) | (apply ZH; (exact oD); all_goals (intro h; try exact xD)) | refine WC.ret ?_ | refine WC.exit ?_ | refine ThenD.r ?_)); all_goals (first | ((repeat clear hK); (repeat clear Kx))))
     all_goals try (exfalso; first | contradiction | omega)
     (refine ⟨trivial, ⟨_, rfl, ?_⟩, _, rfl, ?_⟩ <;> (first | refine FinD.i ?_ | refine ZBe (by decide) ?_))
     all_goals rw [if_pos hf]
 ·have e : facetP s l = ([], chroP s) := by
   unfold facetP chroP
   by_cases h1 : Zn s ≠ 0
   ·rw [if_pos h1, if_pos h1]
   ·rw [if_neg h1, if_neg h1]
    have hd : Zy s = false := by
     unfold chroP at h0
     rw [if_neg h1] at h0
     cases h : Zy s
     ·rfl
     ·rw [h] at h0; exact absurd rfl h0
    rw [if_pos hd, hd]; rfl
  rw [e]
  (refine ZAa Tryz.func29 rfl rfl ?_; simp only [Tryz.ntmps29, List.length_cons, List.length_nil, Nat.reduceAdd, Nat.reduceSub, List.replicate_succ, List.replicate_zero, List.cons_append, List.nil_append])
  ((repeat' (first | (apply WL.opN; exact yF; dsimp only [ZB, z0, z1]) | refine WL.nil ?_ | refine ZA fun Kx hK => ?_ | (refine hK _ _ ?_; clear hK) | refine WC.region ?_ | (apply ZJ; (focus (first | exact wN | (apply ZG; (exact wY); ((first | (apply SY.call (hc) Tryz.call68; (exact aD)) | ((first | apply SY.move | apply SY.assign | apply SY.lss | apply SY.leq | apply SY.neq | apply SY.and | apply SY.andNot) <;> (exact oD)) | fail); all_goals infer_instance)))); dsimp only [ZB, z0, z1]) | (apply ZH; (exact oD); all_goals (intro h; try exact xD)) | refine WC.ret ?_ | refine ThenD.r ?_)); all_goals (first | ((repeat clear hK); (repeat clear Kx))))
  all_goals first | (refine ⟨trivial, ⟨_, rfl, ?_⟩, _, rfl, ?_⟩ <;> exact fD) | (exfalso; first | contradiction | omega)
end
end Go.Proofs.YtmcllakdbgnfiaaGreatDoor
namespace Go.Proofs.YtmcllakdbgnfiaaGreatDoor.M
section
open Go.RowKit

section
variable {P : Program} {ops : Array Oper} {hp : List HObj} {fr : List Dat} {dst : Option Tmp} {ty : TypeId} {ps : String} {af : Array Edge} {g : Option (Nat × Bool)} {t e : TypeId} {n bytes : Nat} {z : Value} {ag : Bool}
theorem SY.buildE (E : ElT P t e n z bytes ag) {α : Type} {R : Rel α} {_gR : Good R} {len : Nat} {parts : Array (Nat × Operand)} {els : List α} (hx : ElsD fr R (parts.toList.map Prod.snd) els) (hparts : parts.toList = ((parts.toList.map Prod.snd).zipIdx).map (fun p => (p.2, p.1))) (hl : len = els.length) (hn : 0 < n) (hs : ∀ a, (dS R a).Shape n true) (hsm : els.length * n <= 16777216) :
  SY P ops hp { dst := dst, op := .buildSlice t len parts, type := ty, pos := ps, after := af, guard := g } fr (dS (ArrK n R) els) := SY.buildK E hx hparts hl hn hs hsm
end
theorem cmpL_one (x y : Vx) : ZAc [x] [y] = ZAX x y := by
 unfold ZAc
 by_cases h : ZAX x y = 0
 ·rw [if_pos h, h]; rfl
 ·rw [if_neg h]
theorem vtx_p (x y : Vx) : Fn Tryz.prog 127 [dS RV x, dS RV y] (dI (ZAX x y)) := by
 (refine ZE Tryz.func127 rfl rfl ?_; simp only [Tryz.ntmps127, List.length_cons, List.length_nil, Nat.reduceAdd, Nat.reduceSub, List.replicate_succ, List.replicate_zero, List.cons_append, List.nil_append])
 ((repeat' (first | (apply ZJ; (focus (apply ZG; (exact ZV rfl); (first | (apply SY.assign <;> (exact oD)) | (apply SY.load; (exact tD); (exact OpD.t rfl))))); dsimp only [ZB, z0, z1]) | refine WL.nil ?_ | refine ZA fun Kx hK => ?_ | (refine hK _ _ ?_; clear hK) | refine WC.region ?_ | (apply ZJ; (focus (apply ZG; (exact ZV rfl); ((first | (apply SY.call (cmpL_p [x] [y]) Tryz.call81; (exact aD)) | (apply SY.buildE; (exact eD); ((try simp only [List.map_cons, List.map_nil]); (repeat (first | exact ZAj | (apply ZAU; (first | exact OpD.t rfl | exact OpD.i | exact OpD.b | exact OpD.tle rfl (by first | exact ZN | exact ZK (by decide)) | exact ⟨ZN⟩ | exact ⟨ZK (by decide)⟩))))); rfl; rfl; decide; (intro _; exact ZA8); (exact (by simp))) | (apply SY.box; (exact oD); (exact hD)) | fail); all_goals infer_instance))); dsimp only [ZB, z0, z1]) | refine WC.ret ?_)); all_goals (first | ((repeat clear hK); (repeat clear Kx))))
 all_goals (rw [cmpL_one]; (refine ⟨trivial, _, rfl, ?_⟩; refine FinD.i ?_); try rfl)
theorem vtx_x (x y : Vx) (w : World) : Calls Tryz.prog 127 #[.agg #[.int .i64 x.1, .int .i64 x.2], .agg #[.int .i64 y.1, .int .i64 y.2]] w fun e w' => e = .returned (.int .i64 (ZAX x y)) /\ ∃ q os', w' = Go.Sort.grow (w.drewN q) os' := by
 have := (vtx_p x y).out (fun _ => True) w [.agg #[.int .i64 x.1, .int .i64 x.2], .agg #[.int .i64 y.1, .int .i64 y.2]] rfl (fun i d hd => by
  match i with
  | 0 => cases hd; rfl
  | 1 => cases hd; rfl
  | i + 2 => simp at hd)
 exact this.mono fun e w' ⟨v, h1, h2, h3⟩ => ⟨by rw [h1]; exact congrArg _ h3, h2.grow⟩
end
section
open Go.RowKit

theorem don_p (x y : Vx) : Fn Tryz.prog 80 [dS RV x, dS RV y] (dI (ZAX x y)) := by
 (refine ZE Tryz.func80 rfl rfl ?_; simp only [Tryz.ntmps80, List.length_cons, List.length_nil, Nat.reduceAdd, Nat.reduceSub, List.replicate_succ, List.replicate_zero, List.cons_append, List.nil_append])
 ((repeat' (first | (apply ZJ; (focus (apply ZG; (exact ZV rfl); (first | (apply SY.assign <;> (exact oD)) | (apply SY.load; (exact tD); (exact OpD.t rfl))))); dsimp only [ZB, z0, z1]) | refine WL.nil ?_ | refine ZA fun Kx hK => ?_ | (refine hK _ _ ?_; clear hK) | refine WC.region ?_ | (apply ZJ; (focus (apply ZG; (exact ZV rfl); ((first | (apply SY.call (cmpL_p [x] [y]) Tryz.call81; (exact aD)) | (apply SY.buildE; (exact eD); ((try simp only [List.map_cons, List.map_nil]); (repeat (first | exact ZAj | (apply ZAU; (first | exact OpD.t rfl | exact OpD.i | exact OpD.b | exact OpD.tle rfl (by first | exact ZN | exact ZK (by decide)) | exact ⟨ZN⟩ | exact ⟨ZK (by decide)⟩))))); rfl; rfl; decide; (intro _; exact ZA8); (exact (by simp))) | (apply SY.box; (exact oD); (exact hD)) | fail); all_goals infer_instance))); dsimp only [ZB, z0, z1]) | refine WC.ret ?_)); all_goals (first | ((repeat clear hK); (repeat clear Kx))))
 all_goals (rw [cmpL_one]; (refine ⟨trivial, _, rfl, ?_⟩; refine FinD.i ?_); try rfl)
theorem don_x (x y : Vx) (w : World) : Calls Tryz.prog 80 #[.agg #[.int .i64 x.1, .int .i64 x.2], .agg #[.int .i64 y.1, .int .i64 y.2]] w fun e w' => e = .returned (.int .i64 (ZAX x y)) /\ ∃ q os', w' = Go.Sort.grow (w.drewN q) os' := by
 have := (don_p x y).out (fun _ => True) w [.agg #[.int .i64 x.1, .int .i64 x.2], .agg #[.int .i64 y.1, .int .i64 y.2]] rfl (fun i d hd => by
  match i with
  | 0 => cases hd; rfl
  | 1 => cases hd; rfl
  | i + 2 => simp at hd)
 exact this.mono fun e w' ⟨v, h1, h2, h3⟩ => ⟨by rw [h1]; exact congrArg _ h3, h2.grow⟩
end
end Go.Proofs.YtmcllakdbgnfiaaGreatDoor.M
namespace Go.Proofs.YtmcllakdbgnfiaaGreatDoor
section
def ZB9 (a : Cx) : List Vx := ZBF [] a.flatten
theorem ZAI {a : Cx} {v : Vx} : v ∈ ZB9 a ↔ ∃ s ∈ a, v ∈ s := by unfold ZB9; rw [ZAq]; simp
theorem ptsC_asc (a : Cx) : Asc (ZB9 a) := ZCf (by simp [Asc])
def Apart (a b : Cx) : Prop := ∀ s ∈ a, ∀ t ∈ b, ∀ v ∈ s, v ∉ t
theorem Apart.symm {a b : Cx} (h : Apart a b) : Apart b a := fun s hs t ht v v1 v2 => h t ht s hs v v2 v1
end
section
open Go.RowKit

section
variable {ops : Array Oper} {hp : List HObj} {fr : List Dat} {Q : Z1} {rest : List Oper} {dst : Option Tmp} {ty : TypeId} {ps : String} {af : Array Edge}
theorem WL.growV0 {x : Operand} {n : Nat} {ats : Array TypeId} (hx : OpD fr x (dI (n : Int))) (h0 : n = 0)
  (h : ∀ v : Value, WL Tryz.prog ops Q rest (ZB fr dst (dX v)) (ZS v 45 2 RV ([] : List Vx) :: hp)) :
  WL Tryz.prog ops Q ({ dst := dst, op := .call { callee := .value (.func 151), args := #[.const (.slice none 0 0), x], argTypes := ats }, type := ty, pos := ps, after := af, guard := none } :: rest) fr hp := by
 subst h0
 refine WL.of fun P0 B w0 w a hh hf => ?_
 have hcon := Any8.slices_Grow_room Tryz.growV none 0 0 0 w (Nat.le_refl _) (by omega) (by omega) (by omega)
 change Calls Tryz.prog 151 _ _ _ at hcon
 have hev : a.eval x = .int .i64 ((0 : Nat) : Int) := hx.ev hf
 have hrun : (execOp a.eval { dst := dst, op := .call { callee := .value (.func 151), args := #[.const (.slice none 0 0), x], argTypes := ats }, type := ty, pos := ps, after := af, guard := none }).run Tryz.prog w = .ok (.enter 151 #[.slice none 0 0, .int .i64 ((0 : Nat) : Int)]) w := by
  unfold execOp
  simp only [resolve]
  have he : (#[Operand.const (.slice none 0 0), x] : Array Operand).map a.eval = #[.slice none 0 0, .int .i64 ((0 : Nat) : Int)] := by simp [hev]; rfl
  rw [he]
  simp [Act.eval, Deferred.ofValue, invoke, Tryz.call151]
 refine wpList_plain rfl fun K hK => ?_
 unfold Oper.wp
 rw [hrun]
 refine hcon.mono fun e' w' ⟨he, hw'⟩ => ?_
 subst he
 subst hw'
 refine hK _ _ ((WL.nilRowK 45 2 (by decide) RV (h (.slice none 0 0))).on hh (Fr.put hf rfl))
end
set_option maxHeartbeats 4000000 in
theorem concat_o (ss : List (List Vx)) (hl : ss.flatten.length <= 1000) : CallC Tryz.prog 126 [dS Zq ss] [] (fun d hp2 => ∃ v, d = dX v /\ hp2 = [ZS v 45 2 RV ss.flatten]) := by
 have hstep : ∀ (k : Nat) (hk : k < ss.length), (ss.take (k + 1)).flatten = (ss.take k).flatten ++ ss[k] := fun k hk => by rw [ZQ hk, List.flatten_append]; simp
 have hle : ∀ k : Nat, (ss.take k).flatten.length <= ss.flatten.length := fun k => by
  conv => rhs; rw [<- List.take_append_drop k ss]
  rw [List.flatten_append, List.length_append]; omega
 (refine Zw Tryz.func126 rfl rfl (fun hp => ?_); simp only [Tryz.ntmps126, List.length_cons, List.length_nil, List.length_append, List.length_map, Nat.reduceAdd, Nat.reduceSub, List.replicate_succ, List.replicate_zero, List.cons_append, List.nil_append, List.map_cons, List.map_nil, List.append_assoc])
 (repeat' (first | (apply WL.opN; exact yF; dsimp only [ZB, z0, z1]) | refine WL.nil ?_ | refine ZA fun Kx hK => ?_ | (refine hK _ _ ?_; clear hK) | refine WC.region ?_ | (apply WL.opN; (focus ((first | (apply SY.len; (exact oD); (exact nD); (exact uD)) | fail); all_goals infer_instance)); dsimp only [ZB, z0, z1]) | refine WC.block ?_))
 (first | refine ZR (t := 0) rfl le_K fun hl0 => ?_ | refine ZR (t := 0) rfl le_A fun hl0 => ?_ | refine ZR (t := 0) rfl le_C fun hl0 => ?_); simp only [maxLen] at hl0
 (refine WC.loopU (X := Nat) (fun k => [(3, dI ((ss.take k).flatten.length : Int)), (11, dI (k : Int)), (5, dA), (12, dA), (13, dA), (14, dA), (15, dA), (16, dA), (17, dA), (18, dA), (19, dA), (20, dA), (21, dA), (22, dA)]) (fun k => hp) (fun k => ss.length - k) (fun k => k <= ss.length) 0 ?start ?frame0 ?objs0 ?round)
 case start => simp
 case frame0 => ((try dsimp only [ZL, z0, z1]); repeat (first | exact LeF.nil | refine ZD (k := ?_)))
 case objs0 => rfl
 case round =>
  rintro k h1
  dsimp only [ZL, z0, z1]
  have hk1 := hle k
  by_cases hks : k < ss.length
  ·((repeat' (first | (apply WL.opN; exact yF; dsimp only [ZB, z0, z1]) | refine WL.nil ?_ | refine ZA fun Kx hK => ?_ | (refine hK _ _ ?_; clear hK) | refine WC.region ?_ | (apply WL.opN; (focus ((first | (apply SY.add; exact OpD.t rfl; exact OpD.t rfl; (have := hstep k (by omega); have h7 := hle (k + 1); rw [this, List.length_append] at h7; omega)) | ((first | apply SY.move | apply SY.assign | apply SY.lss) <;> (exact oD)) | ((first | apply SY.add) <;> first | exact oD | omega) | (apply SY.len; (exact oD); (exact nD); (exact uD)) | (apply SY.ix; (exact eD); (exact oD); (exact oD); exact kD) | fail); all_goals infer_instance)); dsimp only [ZB, z0, z1]) | (apply ZC; (exact oD); all_goals (intro h; try exact xD)) | refine WC.skip ?_ | refine WC.block ?_ | refine ThenD.n ?_)); all_goals (first | ((repeat clear hK); (repeat clear Kx))))
   all_goals
    have h5 := hstep k (by omega)
    have h6 : ((ss.take (k + 1)).flatten.length : Int) = (ss.take k).flatten.length + (ss[k]'(by omega)).length := by rw [h5, List.length_append]; rfl
    rw [<- h6]
    (refine ⟨k + 1, ?_, by first | omega | (simp only; omega), rfl, ?_⟩; rotate_left; ((try dsimp only [ZL, z0, z1]); repeat (first | exact LeF.nil | refine ZD (k := ?_))); (try dsimp only))
    omega
  ·have hk2 : (ss.take k).flatten = ss.flatten := by rw [List.take_of_length_le (by omega)]
   rw [hk2]
   by_cases h0 : 0 < ss.flatten.length
   all_goals
    (repeat' (first | (apply WL.opN; exact yF; dsimp only [ZB, z0, z1]) | refine WL.nil ?_ | refine ZA fun Kx hK => ?_ | (refine hK _ _ ?_; clear hK) | (refine Kont.skip ?_; clear hK) | refine WC.region ?_ |  (apply WL.growV; exact OpD.t rfl; exact h0; exact hl; intro vg; dsimp only [ZB, z0, z1]) |  (apply WL.growV0; exact OpD.t rfl; exact (by omega); intro vg; dsimp only [ZB, z0, z1]) | (apply WL.opN; (focus ((first | ((first | apply SY.move | apply SY.assign | apply SY.lss) <;> (exact oD)) | (apply SY.len; (exact oD); (exact nD); (exact uD)) | fail); all_goals infer_instance)); dsimp only [ZB, z0, z1]) | (apply ZC; (exact oD); all_goals (intro h; try exact xD)) | refine WC.exit ?_ | refine WC.block ?_))
    (refine WC.loopU (X := Nat × Value) (fun x => [(6, dX x.2), (27, dI (x.1 : Int)), (8, dA), (28, dA), (29, dA), (30, dA), (31, dA), (32, dA), (33, dA), (34, dA)]) (fun x => (ZS x.2 45 2 RV ((ss.take x.1).flatten) :: hp)) (fun x => ss.length - x.1) (fun x => x.1 <= ss.length) (0, vg) ?start ?frame0 ?objs0 ?round)
    case start => simp
    case frame0 => ((try dsimp only [ZL, z0, z1]); repeat (first | exact LeF.nil | refine ZD (k := ?_)))
    case objs0 => rfl
    case round =>
     rintro ⟨j, u⟩ q1
     dsimp only [ZL, z0, z1]
     simp only at q1
     have q2 := hle j
     have q3 : ∀ (hj : j < ss.length), (ss.take j).flatten.length + ss[j].length <= 1000 := fun hj => by
      have h7 := hle (j + 1)
      rw [hstep j hj, List.length_append] at h7
      omega
     ((repeat' (first | (apply WL.opN; exact yF; dsimp only [ZB, z0, z1]) | refine WL.nil ?_ | refine ZA fun Kx hK => ?_ | (refine hK _ _ ?_; clear hK) | (refine Kont.skip ?_; clear hK) | refine WC.region ?_ |  (apply WL.appK; exact elV; exact OpD.t rfl; exact OpD.t rfl; decide; (have := q3 (by omega); omega); (intro _; dsimp only [ZB, z0, z1]); all_goals (try infer_instance)) | (apply WL.opN; (focus ((first | ((first | apply SY.move | apply SY.assign | apply SY.lss) <;> (exact oD)) | ((first | apply SY.add) <;> first | exact oD | omega) | (apply SY.ix; (exact eD); (exact oD); (exact oD); exact kD) | fail); all_goals infer_instance)); dsimp only [ZB, z0, z1]) | (apply ZC; (exact oD); all_goals (intro h; try exact xD)) | refine WC.skip ?_ | refine WC.ret ?_ | refine WC.exit ?_ | refine WC.block ?_ | refine ThenD.n ?_)); all_goals (first | ((repeat clear hK); (repeat clear Kx))))
     ·(refine ⟨(j + 1, _) , ?_, by first | omega | (simp only; omega), by ((try simp only);  (rw [hstep j (by omega)])), ?_⟩; rotate_left; ((try dsimp only [ZL, z0, z1]); repeat (first | exact LeF.nil | refine ZD (k := ?_))); (try dsimp only))
      omega
     ·exact ⟨trivial, _, [_], rfl, rfl, u, rfl, by rw [List.take_of_length_le (by omega)]⟩
theorem flat_len {l : Cx} (h : ∀ s ∈ l, s.length <= 8) : l.flatten.length <= 8 * l.length := by
 induction l with
 | nil => simp
 | cons s l ih =>
  have h1 := ih fun x hx => h x (List.mem_cons_of_mem _ hx)
  have h2 := h s (by simp)
  rw [List.flatten_cons, List.length_append, List.length_cons]
  omega
set_option maxHeartbeats 4000000 in
theorem vertices0_f (l : Cx) (hfl : l.flatten.length <= 1000) : Fn Tryz.prog 98 [dS Zq l] (dS ZF (ZB9 l)) := by
 (refine ZE Tryz.func98 rfl rfl ?_; simp only [Tryz.ntmps98, List.length_cons, List.length_nil, Nat.reduceAdd, Nat.reduceSub, List.replicate_succ, List.replicate_zero, List.cons_append, List.nil_append])
 ((repeat' (first | (apply WL.opN; exact yF; dsimp only [ZB, z0, z1]) | refine WL.nil ?_ | refine ZA fun Kx hK => ?_ | (refine hK _ _ ?_; clear hK) | refine WC.region ?_ |  (refine WL.callC (hp1 := []) (caps := []) (concat_o l (by omega)) Tryz.call126 OpD.f (ArgsD.cons (OpD.t rfl) ArgsD.nil) ?_; rintro d' hp2 ⟨vc, rfl, rfl⟩; dsimp only [ZB, z0, z1, List.cons_append, List.nil_append]) |  (refine WL.sortVG Tryz.call127 M.vtx_x (OpD.t rfl) (by omega) ?_; intro ys hperm hsort; dsimp only [ZB, z0, z1]) |  (refine WL.inRow (compact_k ys vc hsort (by rw [hperm.length_eq]; omega)) Tryz.call128 ?_ ?_; (exact aD); intro vd zs hzs; dsimp only [ZB, z0, z1]) | refine WC.ret ?_)); all_goals (first | ((repeat clear hK); (repeat clear Kx))))
 all_goals
  have hz : zs = ZB9 l := ZCa hzs.1 (ptsC_asc l) fun u => by rw [hzs.2, hperm.mem_iff, ZAI, List.mem_flatten]
  subst hz
  (refine ⟨trivial, _, rfl, ?_⟩; exact fD)
def vrtP (l : Cx) : List Vx × Int := if ZAn l ≠ 0 then ([], ZAn l) else (ZB9 l, 0)
theorem vertices27_f (l : Cx) (hl : ZAn l = 0 -> l.flatten.length <= 1000) : Fn Tryz.prog 51 [dS Cpx l] (dT [dS ZF (vrtP l).1, dI (vrtP l).2]) := by
 (refine ZAa Tryz.func51 rfl rfl ?_; simp only [Tryz.ntmps51, List.length_cons, List.length_nil, Nat.reduceAdd, Nat.reduceSub, List.replicate_succ, List.replicate_zero, List.cons_append, List.nil_append])
 by_cases h0 : ZAn l = 0
 ·have e : vrtP l = (ZB9 l, 0) := by unfold vrtP; rw [if_neg (by omega)]
  have c1 := vertices0_f l (hl h0)
  ((repeat' (first | (apply WL.opN; exact yF; dsimp only [ZB, z0, z1]) | refine WL.nil ?_ | refine ZA fun Kx hK => ?_ | (refine hK _ _ ?_; clear hK) | refine WC.region ?_ | (apply WL.opN; (focus ((first | (apply SY.call (check_p _) Tryz.call42; (exact aD)) | (apply SY.call (c1) Tryz.call98; (exact aD)) | ((first | apply SY.move | apply SY.assign | apply SY.neq) <;> (exact oD)) | (apply ZA7 cpxT; exact OpD.t rfl) | (apply SY.box; (exact oD); (exact hD)) | fail); all_goals infer_instance)); dsimp only [ZB, z0, z1]) | (apply ZH; (exact oD); all_goals (intro h; try exact xD)) | refine WC.skip ?_ | refine WC.ret ?_)); all_goals (first | ((repeat clear hK); (repeat clear Kx))))
  rw [e]; (refine ⟨trivial, ⟨_, rfl, ?_⟩, _, rfl, ?_⟩ <;> exact fD)
 ·have e : vrtP l = ([], ZAn l) := by unfold vrtP; rw [if_pos h0]
  ((repeat' (first | (apply WL.opN; exact yF; dsimp only [ZB, z0, z1]) | refine WL.nil ?_ | refine ZA fun Kx hK => ?_ | (refine hK _ _ ?_; clear hK) | refine WC.region ?_ | (apply WL.opN; (focus ((first | (apply SY.call (check_p _) Tryz.call42; (exact aD)) | ((first | apply SY.move | apply SY.assign | apply SY.neq) <;> (exact oD)) | (apply SY.box; (exact oD); (exact hD)) | fail); all_goals infer_instance)); dsimp only [ZB, z0, z1]) | (apply ZH; (exact oD); all_goals (intro h; try exact xD)) | refine WC.ret ?_ | refine ThenD.r ?_)); all_goals (first | ((repeat clear hK); (repeat clear Kx))))
  rw [e]; (refine ⟨trivial, ⟨_, rfl, ?_⟩, _, rfl, ?_⟩ <;> exact fD)
theorem vertices27_p (l : Cx) (hl : l.length <= 100) : Fn Tryz.prog 51 [dS Cpx l] (dT [dS ZF (vrtP l).1, dI (vrtP l).2]) := vertices27_f l fun h0 => by have := flat_len (Zg.1 h0).short; omega
end
end Go.Proofs.YtmcllakdbgnfiaaGreatDoor
