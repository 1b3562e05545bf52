/- Part 22: walks by contracts, and plain laws. -/
import Derived.Test.YtmcllakdbgnfiaaGreatDoorVg21
set_option linter.unusedVariables false
set_option linter.unusedSimpArgs false
set_option linter.unusedSectionVars false
set_option maxRecDepth 100000
set_option maxHeartbeats 4000000
namespace Go.Proofs.YtmcllakdbgnfiaaGreatDoor
section
open Go.RowKit

theorem clone_o (b cap : Nat) (xs : List Vx) (hl : xs.length <= 1000) : CallC Tryz.prog 82 ([dX (rowV b cap xs)] ++ ([] : List Value).map dX) [hV b xs.length cap 45 xs] fun d' hp2 => ∃ v, d' = dX v /\ hp2 = [ZS v 45 2 RV xs, hV b xs.length cap 45 xs] := by
 (refine Zw Tryz.func82 rfl rfl (fun hp => ?_); simp only [Tryz.ntmps82, List.length_cons, List.length_nil, List.length_append, List.length_map, Nat.reduceAdd, Nat.reduceSub, List.replicate_succ, List.replicate_zero, List.cons_append, List.nil_append, List.map_cons, List.map_nil, List.append_assoc])
 ((repeat' (first | (apply WL.opN; exact yF; dsimp only [ZB, z0, z1]) | refine WL.nil ?_ | refine ZA fun Kx hK => ?_ | (refine hK _ _ ?_; clear hK) | refine WC.region ?_ |  (apply WL.build0K elV RV (by decide); (intro _; dsimp only [ZB, z0, z1]); all_goals (try infer_instance)) |  (apply WL.appKO elV; exact OpD.t rfl; exact OpD.t rfl; decide; (simp; omega); (intro _; dsimp only [ZB, z0, z1])) | (apply WL.opN; (focus ((first | (apply SY.eqNilO; exact OpD.t rfl; exact eqNilV) | fail); all_goals infer_instance)); dsimp only [ZB, z0, z1]) | (apply Zr; (exact oD); (with_reducible rfl)) | refine WC.skip ?_ | refine WC.ret ?_)); all_goals (first | ((repeat clear hK); (repeat clear Kx))))
 exact ⟨trivial, _, [_, _], rfl, rfl, _, rfl, by rw [List.nil_append]⟩

theorem tyFn : TyI Tryz.prog 171 1 false := ⟨by kernel_rfl, Tryz.isAgg171⟩
theorem tyFy : TyI Tryz.prog 105 1 false := ⟨by kernel_rfl, Tryz.isAgg105⟩
theorem tzFn : TyZ Tryz.prog 171 .nilFunc := ⟨by kernel_rfl⟩
abbrev fromF (v2 v3 v4 : Value) (bf : Nat) : Value := .func (.func 136) #[] [v2, v3, v4, .pointer (some ⟨bf, 0, none⟩)].toArray
abbrev fromO (k : Nat) (s : List Vx) (l b cap bf : Nat) (v2 v3 v4 : Value) (pre : List Vx) : List HObj :=
 [hV b pre.length cap 45 pre, ZO bf 171 1 false (dX (fromF v2 v3 v4 bf)), Zu v2 (dP 1 false (dI k)), Zu v3 (dP 1 false (dX (.func (.yield l) #[] #[]))), Zu v4 (dP 1 false (dS ZF s))]
theorem perm5 {a b c d e : HObj} {js hp : List HObj} : (a :: b :: c :: d :: e :: (js ++ hp)).Perm (js ++ a :: b :: c :: d :: e :: hp) := by
 have : (([a, b, c, d, e] ++ js) ++ hp).Perm ((js ++ [a, b, c, d, e]) ++ hp) := List.Perm.append_right _ List.perm_append_comm
 simpa using this
set_option maxRecDepth 100000 in
set_option maxHeartbeats 8000000 in
theorem from_c (k : Nat) (s : List Vx) (hs : s.length <= 100) (hk : k <= 100) (l N b cap : Nat) (hcap : k <= cap) (J : List (List Vx) -> List HObj -> Prop) (hY : YStep Tryz.prog l (fun x => dS ZF x) J N) (v2 v3 v4 : Value) (bf : Nat) :
  ∀ (m i0 : Nat) (pre : List Vx) (done : List (List Vx)) (js : List HObj), s.length - i0 = m -> i0 <= s.length -> pre.length <= k -> J done js -> done.length + (ZX (k - pre.length) (s.drop i0)).length <= N ->
  CallC Tryz.prog 136 ([dI (i0 : Int), dX (rowV b cap pre)] ++ [v2, v3, v4, .pointer (some ⟨bf, 0, none⟩)].map dX) (fromO k s l b cap bf v2 v3 v4 pre ++ js)
   (fun d hp2 => d = dB true /\ ∃ js', J (done ++ (ZX (k - pre.length) (s.drop i0)).map (pre ++ ·)) js' /\ hp2 = fromO k s l b cap bf v2 v3 v4 pre ++ js') := by
 intro m
 induction m using Nat.strongRecOn with
 | _ m ih =>
 intro i0 pre done js hm hi0 hpk hj hN
 (refine Zw Tryz.func136 rfl rfl (fun hp => ?_); simp only [Tryz.ntmps136, List.length_cons, List.length_nil, List.length_append, List.length_map, Nat.reduceAdd, Nat.reduceSub, List.replicate_succ, List.replicate_zero, List.cons_append, List.nil_append, List.map_cons, List.map_nil, List.append_assoc])
 refine WC.use 2 rfl (.tail _ (.tail _ (.head _))) ?_
 refine WC.use 3 rfl (.tail _ (.tail _ (.tail _ (.head _)))) ?_
 refine WC.use 4 rfl (.tail _ (.tail _ (.tail _ (.tail _ (.head _))))) ?_
 dsimp only [z0, z1]
 (repeat' (first |  (refine I.WC.drawW (β := Value) 2 (fun v => ZS v 45 2 RV pre :: hV b pre.length cap 45 pre :: ZO bf 171 1 false (dX (fromF v2 v3 v4 bf)) :: Zu v2 (dP 1 false (dI k)) :: Zu v3 (dP 1 false (dX (.func (.yield l) #[] #[]))) :: Zu v4 (dP 1 false (dS ZF s)) :: (js ++ hp)) (fun v => dX v) _ rfl (by kernel_rfl) (by kernel_rfl) ?_; simp only [List.take_succ_cons, List.take_zero, List.drop_succ_cons, List.drop_zero]) | ((first | apply WL.opN | apply WD.opN); exact yF; dsimp only [ZB, z0, z1]) | refine WL.nil ?_ | refine ZA fun Kx hK => ?_ | (refine hK _ _ ?_; clear hK) | refine WC.region ?_ | ((first | apply WL.opN | apply WD.opN); (focus ((first | exact yEql | exact ZBV | fail); all_goals infer_instance)); dsimp only [ZB, z0, z1]) | (apply ZC; (exact oD); all_goals (intro h; try exact xD)) | refine WC.skip ?_ | refine WC.block ?_))
 ·have hpk' : pre.length = k := by omega
  have h0 : k - pre.length = 0 := by omega
  rw [h0] at hN ⊢
  have hsub : ZX 0 (s.drop i0) = [[]] := by unfold ZX; rfl
  rw [hsub] at hN ⊢
  (repeat' (first | refine WDs.nil ?_ | (apply WDs.op; (focus (intro c; apply ZG; (exact ZV rfl); ((first | (apply SY.load; exact tyFy; exact OpD.t rfl) | exact yMove | fail); all_goals infer_instance))); dsimp only [ZB, z0, z1])))
  refine ⟨SW.callC (hp1 := [_]) (H := fun v => [ZS v 45 2 RV pre, hV b pre.length cap 45 pre]) (caps := []) (clone_o b cap pre (by omega)) Tryz.call82 OpD.f (by (exact aD)) (fun d hp2 ⟨v, h1, h2⟩ => ⟨v, h1, h2⟩), fun v => ?_⟩
  dsimp only [ZB, z0, z1]
  refine I.WL.keepK (s := 16) rfl ?_
  dsimp only [ZB, z0, z1]
  refine I.WL.perm perm5 (I.WL.yield (pre := done) (y := pre) hY (by simp at hN; omega) hj (OpD.t rfl) (OpD.t rfl) fun js' hj' => I.WL.perm perm5.symm ?_)
  dsimp only [ZB, z0, z1]
  refine I.WL.op rfl (SY.assign (OpD.t rfl)) ?_
  dsimp only [ZB, z0, z1]
  refine I.WL.nil ?_
  ((repeat' (first | (refine hK _ _ ?_; clear hK) | refine WC.ret ?_ | refine ThenD.r ?_)); all_goals (first | ((repeat clear hK); (repeat clear Kx))))
  exact ⟨trivial, _, _ :: _ :: _ :: _ :: _ :: js', rfl, rfl, rfl, js', by rw [h0, hsub]; simpa using hj', rfl⟩
 ·have hlt : pre.length < k := by omega
  obtain ⟨m1, hm1⟩ : ∃ m1, k - pre.length = m1 + 1 := ⟨k - pre.length - 1, by omega⟩
  rw [hm1] at hN ⊢
  (refine WC.loopU (X := Nat × List (List Vx) × List HObj) (fun x => [(9, dI (x.1 : Int)), (8, dA), (19, dA), (20, dA), (21, dA), (22, dA), (23, dA), (24, dA), (25, dA), (26, dA), (27, dA), (28, dA), (29, dA), (30, dA), (31, dA), (32, dA), (33, dA), (34, dA), (35, dA), (36, dA)]) (fun x => (hV b pre.length cap 45 pre :: ZO bf 171 1 false (dX (fromF v2 v3 v4 bf)) :: Zu v2 (dP 1 false (dI k)) :: Zu v3 (dP 1 false (dX (.func (.yield l) #[] #[]))) :: Zu v4 (dP 1 false (dS ZF s)) :: (x.2.2 ++ hp))) (fun x => s.length - x.1) (fun x => i0 <= x.1 /\ x.1 <= s.length /\ J x.2.1 x.2.2 /\ x.2.1 ++ (ZX (m1 + 1) (s.drop x.1)).map (pre ++ ·) = done ++ (ZX (m1 + 1) (s.drop i0)).map (pre ++ ·)) (i0, done, js) ?start ?frame0 ?objs0 ?round)
  case start => exact ⟨Nat.le_refl _, hi0, hj, rfl⟩
  case frame0 => ((try dsimp only [ZL, z0, z1]); repeat (first | exact LeF.nil | refine ZD (k := ?_)))
  case objs0 => rfl
  case round =>
   rintro ⟨i, dn, js1⟩ ⟨q1, q2, q3, q4⟩
   simp only at q1 q2 q3 q4
   dsimp only [ZL, z0, z1]
   ((repeat' (first |  (refine WC.drawW (β := Unit) 9 (fun _ => hV b (pre ++ [s[i]'(by omega)]).length cap 45 (pre ++ [s[i]'(by omega)]) :: ZO bf 171 1 false (dX (fromF v2 v3 v4 bf)) :: Zu v2 (dP 1 false (dI k)) :: Zu v3 (dP 1 false (dX (.func (.yield l) #[] #[]))) :: Zu v4 (dP 1 false (dS ZF s)) :: (js1 ++ hp)) (fun _ => dX (rowV b cap (pre ++ [s[i]'(by omega)]))) _ rfl (by kernel_rfl) (by kernel_rfl) ?_; simp only [List.take_succ_cons, List.take_zero, List.drop_succ_cons, List.drop_zero]) | ((first | apply WL.opN | apply WD.opN); exact yF; dsimp only [ZB, z0, z1]) | refine WL.nil ?_ | refine ZA fun Kx hK => ?_ | (refine hK _ _ ?_; clear hK) | (refine Kont.skip ?_; clear hK) | refine WC.region ?_ | ((first | apply WL.opN | apply WD.opN); (focus ((first | exact ZBu | exact ZBV | fail); all_goals infer_instance)); dsimp only [ZB, z0, z1]) | (apply ZC; (exact oD); all_goals (intro h; try exact xD)) | refine WC.skip ?_ | refine WC.ret ?_ | refine WC.exit ?_ | refine WC.block ?_)); all_goals (first | refine WDs.id ?_ | ((repeat clear hK); (repeat clear Kx))))
   ·have hi : i < s.length := by omega
    (repeat' (first | refine WDs.nil ?_ | (apply WDs.op; (focus (intro c; apply ZG; (exact ZV rfl); ((first | (apply ZAE; exact tyFn; exact OpD.t rfl; (refine HH.mem ?_ (fun _ => ?_) <;> exact .tail _ (.head _))) | (refine ZA3 (R := RV) (_gR := inferInstance) (k := i) elV ?_ ?_ hi; exact OpD.t rfl; exact OpD.t rfl) | exact yMove | exact yAdd | exact yLoad | exact ZCV | fail); all_goals infer_instance))); dsimp only [ZB, z0, z1])))
    refine ⟨SW.pushO' elV (OpD.t rfl) (OpD.t rfl) (by omega), fun _ => ?_⟩
    dsimp only [ZB, z0, z1]
    have hd := subsV_drop m1 s i hi
    have hlen := congrArg List.length q4
    simp only [hd, List.length_append, List.length_map] at hlen
    have hk1 : k - (pre ++ [s[i]]).length = m1 := by simp; omega
    have hC := ih (s.length - (i + 1)) (by omega) (i + 1) (pre ++ [s[i]]) dn js1 rfl (by omega) (by simp; omega) q3 (by rw [hk1]; omega)
    rw [hk1] at hC
    refine WL.callC (hp1 := fromO k s l b cap bf v2 v3 v4 (pre ++ [s[i]]) ++ js1) hC Tryz.call136 (OpD.t rfl) (by (exact aD)) ?_
    rintro d' hp2 ⟨rfl, js2, hj2, rfl⟩
    dsimp only [ZB, z0, z1, List.cons_append, List.nil_append]
    refine WL.cutO (k := pre.length) (by simp) ?_
    rw [List.take_left' rfl]
    ((repeat' (first | ((first | apply WL.opN | apply WD.opN); exact yF; dsimp only [ZB, z0, z1]) | refine WL.nil ?_ | (refine hK _ _ ?_; clear hK) | refine WC.region ?_ | ((first | apply WL.opN | apply WD.opN); (focus ((first | exact yNot | exact yAdd | fail); all_goals infer_instance)); dsimp only [ZB, z0, z1]) | (apply Zk; (exact oD); all_goals (intro h; try exact xD)) | refine WC.skip ?_ | refine ThenD.n ?_)); all_goals (first | ((repeat clear hK); (repeat clear Kx))))
    (refine ⟨(i + 1, dn ++ List.map (fun x => pre ++ [s[i]] ++ x) (ZX m1 (List.drop (i + 1) s)), js2), ?_, by first | omega | (simp only; omega), rfl, ?_⟩; rotate_left; ((try dsimp only [ZL, z0, z1]); repeat (first | exact LeF.nil | refine ZD (k := ?_))); (try dsimp only))
    refine ⟨by omega, by omega, hj2, ?_⟩
    rw [<- q4, hd, List.map_append, List.map_map, List.append_assoc]
    congr 2
    apply List.map_congr_left
    intro x _
    simp
   ·have hi : s.length <= i := by omega
    have hd : ZX (m1 + 1) (List.drop i s) = [] := by rw [List.drop_eq_nil_of_le hi]; rfl
    rw [hd] at q4
    simp only [List.map_nil, List.append_nil] at q4
    exact ⟨trivial, _, _ :: _ :: _ :: _ :: _ :: js1, rfl, rfl, rfl, js1, by rw [hm1, <- q4]; exact q3, rfl⟩
theorem perm2 {a b : HObj} {js hp : List HObj} : (js ++ a :: b :: hp).Perm (a :: b :: (js ++ hp)) := ZCD.symm
set_option maxRecDepth 100000 in
set_option maxHeartbeats 8000000 in
theorem seq_c (k : Nat) (s : List Vx) (hs : s.length <= 100) (hk : k <= 100) (vk vs : Value) : SeqC Tryz.prog 135 [vk, vs] [Zu vk (dP 1 false (dI k)), Zu vs (dP 1 false (dS ZF s))] (fun x => dS ZF x) (ZX k s) := ⟨fun l J hY js hj => by
 (refine CallC.intro0 Tryz.func135 rfl rfl (fun hp => ?_); simp only [Tryz.ntmps135, List.length_cons, List.length_nil, List.length_append, List.length_map, Nat.reduceAdd, Nat.reduceSub, List.replicate_succ, List.replicate_zero, List.cons_append, List.nil_append, List.map_cons, List.map_nil, List.append_assoc])
 refine WC.perm' perm2 ?_
 (repeat' (first |  (refine WC.pin (d := dP 1 false (dX (.func (.yield l) #[] #[]))) 3 rfl fun v3 => ?_; dsimp only [z0, z1]) |  (refine WC.use (d := dP 1 false (dI k)) 1 rfl (.tail _ (.tail _ (.head _))) ?_; dsimp only [z0, z1]; refine WC.drawW (β := Nat) 2 (fun b => hV b 0 k 45 [] :: ZO bf 171 1 false (dX (fromF vk v3 vs bf)) :: Zu v3 (dP 1 false (dX (.func (.yield l) #[] #[]))) :: Zu vk (dP 1 false (dI k)) :: Zu vs (dP 1 false (dS ZF s)) :: (js ++ hp)) (fun b => dX (.slice (some ⟨b, 0, none⟩) 0 k)) _ rfl (by kernel_rfl) (by kernel_rfl) ?_; simp only [List.take_succ_cons, List.take_zero, List.drop_succ_cons, List.drop_zero]) | refine WL.nil ?_ | refine ZA fun Kx hK => ?_ | (refine hK _ _ ?_; clear hK) | refine WC.region ?_ |  (apply WL.alloc tzFn; exact ZW rfl; (intro bf; dsimp only [ZB, z0, z1])) |  (apply WL.storeK tyFn; exact OpD.t rfl; exact OpD.t rfl; exact ZW rfl; dsimp only [ZB, z0, z1]) | ((first | apply WL.opN | apply WD.opN); (focus ((first | (apply SY.makeX; repeat (first | exact ArgsX.nil | (apply ArgsX.cons; exact OpD.t rfl))) | exact yBox | fail); all_goals infer_instance)); dsimp only [ZB, z0, z1])))
 (repeat' (first | refine WDs.nil ?_ | (apply WDs.op; (focus (intro c; apply ZG; (exact ZV rfl); ((first | (apply ZAE; exact tyFn; exact OpD.t rfl; (refine HH.mem ?_ (fun _ => ?_) <;> first | exact .head _ | exact .tail _ (.head _))) | exact yLoad | fail); all_goals infer_instance))); dsimp only [ZB, z0, z1])))
 refine ⟨SW.makeO elV (OpD.t rfl) rfl (by omega) (by simp only [maxLen]; omega), fun b => ?_⟩
 dsimp only [ZB, z0, z1]
 have hC := from_c k s hs hk l (ZX k s).length b k (Nat.le_refl _) J hY vk v3 vs bf s.length 0 [] [] js rfl (Nat.zero_le _) (Nat.zero_le _) hj (by simp)
 refine WL.perm (((List.Perm.swap _ _ _).cons _).cons _) ?_
 refine WL.callC (hp1 := fromO k s l b k bf vk v3 vs [] ++ js) hC Tryz.call136 (OpD.t rfl) (by (exact aD)) ?_
 rintro d' hp2 ⟨rfl, js', hj', rfl⟩
 simp only [List.length_nil, Nat.sub_zero, List.drop_zero, List.nil_append, List.map_id'] at hj'
 dsimp only [ZB, z0, z1, List.cons_append, List.nil_append]
 refine WL.drop (WL.drop (WL.perm (List.Perm.swap _ _ _) (WL.drop (WL.perm ZCD (WL.nil ?_)))))
 exact ⟨trivial, js' ++ [_, _], by simp, js', hj', rfl⟩⟩
theorem faces_k (k : Nat) (s : List Vx) : CallC Tryz.prog 114 ([dS ZF s, dI k] ++ ([] : List Value).map dX) [] (fun d hp2 => ∃ vk vs, d = dX (.func (.func 135) #[] [vk, vs].toArray) /\ hp2 = [Zu vk (dP 1 false (dI k)), Zu vs (dP 1 false (dS ZF s))]) := by
 (refine Zw Tryz.func114 rfl rfl (fun hp => ?_); simp only [Tryz.ntmps114, List.length_cons, List.length_nil, List.length_append, List.length_map, Nat.reduceAdd, Nat.reduceSub, List.replicate_succ, List.replicate_zero, List.cons_append, List.nil_append, List.map_cons, List.map_nil, List.append_assoc])
 ((repeat' (first |  (refine WC.pin (d := dP 1 false (dS ZF s)) 2 rfl fun vs => ?_; dsimp only [z0, z1]; refine WC.pin (d := dP 1 false (dI k)) 3 rfl fun vk => ?_; dsimp only [z0, z1]) | (apply WL.opN; exact yF; dsimp only [ZB, z0, z1]) | refine WL.nil ?_ | refine ZA fun Kx hK => ?_ | (refine hK _ _ ?_; clear hK) | refine WC.region ?_ | (apply WL.opN; (focus ((first | (apply SY.makeX; repeat (first | exact ArgsX.nil | (apply ArgsX.cons; exact OpD.t rfl))) | exact yBox | fail); all_goals infer_instance)); dsimp only [ZB, z0, z1]) | refine WC.ret ?_)); all_goals (first | ((repeat clear hK); (repeat clear Kx))))
 exact ⟨trivial, _, [_, _], rfl, rfl, vk, vs, rfl, rfl⟩

end
section
open Go.RowKit

abbrev apO (b : Nat) (xs : List (List Vx)) (hs : List HObj) : Prop := ∃ sv, hs = [ZO b 22 1 false (dX sv), ZU sv 28 ZF xs]
theorem tySj : TyI Tryz.prog 22 1 false := ⟨by kernel_rfl, Tryz.isAgg22⟩
set_option maxRecDepth 100000 in
set_option maxHeartbeats 8000000 in
theorem appendSeq_c {gf : FuncId} {lb : List Value} {hk : List HObj} {xs : List (List Vx)} (he : ZAG Tryz.prog gf) (hS : SeqC Tryz.prog gf lb hk (fun x => dS ZF x) xs) (hl : xs.length <= 1000000) :
  CallC Tryz.prog 134 ([dX (.slice none 0 0), dX (.func (.func gf) #[] lb.toArray)] ++ ([] : List Value).map dX) hk (fun d hp2 => ∃ v, d = dX v /\ hp2 = ZU v 28 ZF xs :: hk) := ⟨fun P0 B w0 hp vs W hh hl0 hv => by
 refine (callsIn_wide (n := 0)).1 (callsIn_of_wp_marks Tryz.func134 rfl trivial ?_ rfl)
 refine wpIn_wide.2 ?_
 have hf0 := ZAg (m := 11) hl0 hv
 have hsz : vs.toArray.size = 2 := by simpa using hl0
 rw [hsz]
 have hnt : Tryz.f134.ntmps = 13 := rfl
 rw [hnt]
 simp only [List.length_cons, List.length_nil, Nat.reduceAdd, Nat.reduceSub, List.replicate_succ, List.replicate_zero, List.cons_append, List.nil_append, List.map_nil] at hf0 ⊢
 refine wp_seq (Code.wp_mono ?_ (WC.on (Q := fun e f q => e = .normal /\ ∃ b, f = [dX (.slice none 0 0), dX (.func (.func gf) #[] lb.toArray), dX (.pointer (some ⟨b, 0, none⟩)), dX undef, dX (.slice none 0 0), dX undef, dX undef, dX undef, dX undef, dX undef, dX undef, dX undef, dX undef] /\ q = [ZO b 22 1 false (dX (.slice none 0 0)), ZU (.slice none 0 0) 28 ZF []] ++ (hk ++ hp)) ?_ hh hf0))
 rotate_left
 ·refine WC.region ?_
  refine ZAk 28 ZF ?_
  refine WL.boxC (OpD.t rfl) (ZW rfl) fun b => ?_
  dsimp only [ZB, z0, z1]
  refine WL.op rfl (SY.assign OpD.x) (WL.nil ?_)
  exact ⟨rfl, b, rfl, rfl⟩
 rintro e a1 w1 ⟨f1, q1, ⟨rfl, b, rfl, rfl⟩, hh1, hf1⟩
 show Code.wp _ _ _ _ _
 refine wp_seq ?_
 refine wp_seq (Code.wp_mono ?_ (WC.on (Q := fun e f q => e = .normal /\ f = [dX (.slice none 0 0), dX (.func (.func gf) #[] lb.toArray), dX (.pointer (some ⟨b, 0, none⟩)), dX undef, dX (.slice none 0 0), dX undef, dX (.func (.func gf) #[] lb.toArray), dX undef, dX undef, dX undef, dX undef, dX undef, dX undef] /\ q = [ZO b 22 1 false (dX (.slice none 0 0)), ZU (.slice none 0 0) 28 ZF []] ++ (hk ++ hp)) ?_ hh1 hf1))
 rotate_left
 ·refine WC.region ?_
  refine WL.op rfl (SY.move (OpD.t rfl)) (WL.nil ?_)
  exact ⟨rfl, rfl, rfl⟩
 rintro e a2 w2 ⟨f2, q2, ⟨rfl, rfl, rfl⟩, hh2, hf2⟩
 show Code.wp _ _ _ _ _
 refine wp_block ?_
 refine wp_rangeC (hs0 := [_, _]) (hk := hk) (hp := hp) (xs := xs) (D := fun x => dS ZF x) (apO b) _ (fun x => [dX (.slice none 0 0), dX (.func (.func gf) #[] lb.toArray), dX (.pointer (some ⟨b, 0, none⟩)), dX undef, dX (.slice none 0 0), dS ZF x, dX (.func (.func gf) #[] lb.toArray), dS ZF x, dX undef, dX undef, dX undef, dX undef, dX undef]) hh2 hf2 (OpD.t rfl) he hS ⟨_, rfl⟩ (by repeat (first | exact FixF.nil | apply FixF.x)) ?_ ?_ ?_
 ·intro l x q
  refine WR.region rfl (I.WL.op rfl (SY.assign (OpD.t rfl)) (I.WL.nil ⟨rfl, rfl, rfl⟩))
 ·rintro l pre x hs q hlt ⟨sv, rfl⟩
  refine WR.block (WR.region rfl ?_)
  refine I.WL.op rfl (ZAE tySj (OpD.t rfl) (.head _)) ?_
  dsimp only [ZB, z0, z1, List.cons_append, List.nil_append]
  refine I.WL.op rfl (SY.move (OpD.t rfl)) ?_
  dsimp only [ZB, z0, z1]
  refine I.WL.perm (List.Perm.swap _ _ _) (I.WL.push1 elSi (OpD.t rfl) (OpD.t rfl) (fun _ => ZAs) (by simp) (by simp) (by decide) (by omega) fun v' => ?_)
  dsimp only [ZB, z0, z1]
  refine I.ZBc (.head _) fun ⟨ad, c, hv'⟩ => ?_
  refine I.WL.perm (List.Perm.swap _ _ _) (I.WL.storeK tySj (OpD.t rfl) (OpD.t rfl) (ZW (by rw [hv']; rfl)) (I.WL.nil ?_))
  exact ⟨rfl, _, ⟨v', rfl⟩, rfl⟩
 ·rintro k hs w3 ⟨sv, rfl⟩ hh3 hrd
  show Code.wp _ _ _ _ _
  have hf3 : Fr (Imm P0 B (ZAW k (.deferred (some [])) :: ([ZO b 22 1 false (dX sv), ZU sv 28 ZF xs] ++ (hk ++ hp)))) w3 { tmps := a2.tmps, defers := [] } _ := ⟨rfl, hf2.size, hrd⟩
  refine wp_seq (wp_region_lit ?_)
  refine ZA1 rfl (ZAE tySj (OpD.t rfl) (.tail _ (.head _))) hh3 hf3 fun a4 w4 hd4 hh4 hf4 => ?_
  refine ZA1 rfl (SY.assign (OpD.t rfl)) hh4 hf4 fun a5 w5 hd5 hh5 hf5 => ?_
  refine wpList_nil ?_
  show Code.wp _ _ _ _ _
  refine wp_ret ?_
  show LeavesInM _ _ _ _ _ _ _ _ _
  rw [hd5, hd4, hf2.defers]
  have hK : w5.heap[k]? = some (.deferred (some [])) := hh5.ok (ZAW k (.deferred (some []))) (by simp)
  refine ⟨by simp, .inl ⟨_, _, rfl, run_takeDeferred hK, _, results_tmp rfl _ _ _, ?_⟩⟩
  have hh6 := (Hp.putObj (o' := .deferred none) hh5).drop.drop
  exact ⟨_, dX sv, ZU sv 28 ZF xs :: hk, rfl, ⟨sv, rfl, rfl⟩, hh6, hf5.rd 4 _ rfl⟩⟩
theorem collect_c {gf : FuncId} {lb : List Value} {hk : List HObj} {xs : List (List Vx)} (he : ZAG Tryz.prog gf) (hS : SeqC Tryz.prog gf lb hk (fun x => dS ZF x) xs) (hl : xs.length <= 1000000) :
  CallC Tryz.prog 113 ([dX (.func (.func gf) #[] lb.toArray)] ++ ([] : List Value).map dX) hk (fun d hp2 => ∃ v, d = dX v /\ hp2 = ZU v 28 ZF xs :: hk) := by
 (refine Zw Tryz.func113 rfl rfl (fun hp => ?_); simp only [Tryz.ntmps113, List.length_cons, List.length_nil, List.length_append, List.length_map, Nat.reduceAdd, Nat.reduceSub, List.replicate_succ, List.replicate_zero, List.cons_append, List.nil_append, List.map_cons, List.map_nil, List.append_assoc])
 ((repeat' (first | (apply WL.opN; exact yF; dsimp only [ZB, z0, z1]) | refine WL.nil ?_ | refine ZA fun Kx hK => ?_ | (refine hK _ _ ?_; clear hK) | refine WC.region ?_ |  (refine WL.callC (caps := []) (appendSeq_c he hS hl) Tryz.call134 OpD.f (by (exact aD)) ?_; rintro d' hp2 ⟨v, rfl, rfl⟩; dsimp only [ZB, z0, z1, List.cons_append, List.nil_append]) | refine WC.ret ?_)); all_goals (first | ((repeat clear hK); (repeat clear Kx))))
 exact ⟨trivial, _, _ :: hk, rfl, rfl, v, rfl, rfl⟩

theorem chkV_short {s : List Vx} (h : Zn s = 0) : s.length <= 8 := by
 unfold Zn at h
 split at h
 ·cases h
 ·split at h
  ·cases h
  ·omega
theorem facesP_p (s : List Vx) (k : Int) : Fn Tryz.prog 74 [dS ZF s, dI k] (dT [dS Zq (facesV s k).1, dI (facesV s k).2]) := by
 (refine ZAa Tryz.func74 rfl rfl ?_; simp only [Tryz.ntmps74, List.length_cons, List.length_nil, Nat.reduceAdd, Nat.reduceSub, List.replicate_succ, List.replicate_zero, List.cons_append, List.nil_append])
 ((repeat' (first | (apply WL.opN; exact yF; dsimp only [ZB, z0, z1]) | refine WL.nil ?_ | refine ZA fun Kx hK => ?_ | (refine hK _ _ ?_; clear hK) | refine WC.region ?_ |  (refine WL.callC (hp1 := []) (caps := []) (faces_k k.toNat s) Tryz.call114 OpD.f (by (exact aD)) ?_; rintro d' hp2 ⟨vk, vs, rfl, rfl⟩; dsimp only [ZB, z0, z1, List.cons_append, List.nil_append]) |  (refine WL.callC (caps := []) (collect_c Tryz.call135 (seq_c k.toNat s (by have := chkV_short (by assumption); omega) (by have := chkV_short (by assumption); omega) vk vs) (by have := chkV_short (by assumption); have := ZBj k.toNat s; have : 2 ^ s.length <= 2 ^ 8 := Nat.pow_le_pow_right (by decide) (by omega); omega)) Tryz.call113 OpD.f (by (exact aD)) ?_; rintro d' hp2 ⟨v, rfl, rfl⟩; dsimp only [ZB, z0, z1, List.cons_append, List.nil_append]) | (apply ZJ; (focus (first | exact wN | (apply ZG; (exact wY); ((first | (apply SY.call (chk_p _) Tryz.call88; (exact aD)) | exact yMove | exact ZBu | exact yGtr | exact yNeq | exact ZBV | exact yPick | fail); all_goals infer_instance)))); dsimp only [ZB, z0, z1]) | ((first | refine Zd rfl rfl rfl (fun h => ?_) (fun h => ?_) | refine Zc rfl rfl rfl (fun h => ?_) (fun h => ?_) | refine ZY rfl rfl rfl (fun h => ?_) (fun h => ?_)) <;> (first | (exfalso; first | omega | contradiction) | (dsimp only [z0, z1]))) | (apply ZBG; (exact oD); (with_reducible rfl)) | (apply ZC; (exact oD); all_goals (intro h; try exact xD)) | (apply ZH; (exact oD); all_goals (intro h; try exact xD)) | refine WC.skip ?_ | refine WC.ret ?_ | refine ThenD.r ?_)); all_goals (first | ((repeat clear hK); (repeat clear Kx))))
 ·have e1 : facesV s k = ([], Zn s) := by unfold facesV; rw [if_pos h]
  rw [e1]; (refine ⟨trivial, ⟨_, rfl, ?_⟩, _, rfl, ?_⟩ <;> exact fD)
 ·have e1 : facesV s k = ([], 2) := by unfold facesV; rw [if_neg (by simpa), if_pos (.inl h)]
  rw [e1]; (refine ⟨trivial, ⟨_, rfl, ?_⟩, _, rfl, ?_⟩ <;> exact fD)
 ·have e1 : facesV s k = ([], 2) := by unfold facesV; rw [if_neg (by simpa), if_pos (.inr h)]
  rw [e1]; (refine ⟨trivial, ⟨_, rfl, ?_⟩, _, rfl, ?_⟩ <;> exact fD)
 ·have e1 : facesV s k = (ZX k.toNat s, 0) := by unfold facesV; rw [if_neg (by simpa), if_neg (by omega)]
  rw [e1]; (refine ⟨trivial, ⟨_, rfl, ?_⟩, _, rfl, ?_⟩ <;> exact fD)
end
section
open Go.RowKit
section
variable {P : Program} {ops : Array Oper} {hp : List HObj} {fr : List Dat} {dst : Option Tmp} {ty : TypeId} {ps : String} {af : Array Edge} {t e : TypeId} {z : Value} {bytes : Nat} {ag : Bool}
theorem SW.app1 {s y : Operand} (E : ElT P t e 1 z bytes ag) {α : Type} {R : Rel α} {_gR : Good R} {v : Value} {xs ys : List α} (hs : OpD fr s (dX v)) (hy : OpD fr y (dS (Arr R) ys)) (hby : 0 < bytes)
  (hlen : (xs.length + ys.length) * bytes <= 140737488355328) :
  SW P ops (ZU v e R xs :: hp) (fun v' : Value => ZU v' e R (xs ++ ys) :: hp) (fun v' => dX v') { dst := dst, op := .call { callee := .builtin .append, args := #[s, y], argTypes := #[t, t] }, type := ty, pos := ps, after := af, guard := none } fr := ⟨rfl, fun {P0 B w0 w a} hh ho K Q hk => by
 obtain ⟨ad, cap, hv, c1, c2, c3⟩ := (hy.get (by simp [Op.operands, Call.operands]) ho : Arr R _ _ _ _)
 have hm : xs.length + ys.length <= maxLen := by
  have : (xs.length + ys.length) * 1 <= (xs.length + ys.length) * bytes := Nat.mul_le_mul_left _ hby
  simp only [maxLen]; omega
 have hse : a.eval s = v := hs.get (by simp [Op.operands, Call.operands]) ho
 cases ad with
 | none =>
  have hy0 : ys = [] := by
   cases ys with
   | nil => rfl
   | cons y ys => obtain ⟨_, _, _, _, _, hc, _⟩ := c3 0 (by simp); cases hc
  subst hy0
  obtain ⟨us, _, hown, _⟩ := hh.ok (ZU v e R xs) (by simp)
  have hrun : (execOp a.eval { dst := dst, op := .call { callee := .builtin .append, args := #[s, y], argTypes := #[t, t] }, type := ty, pos := ps, after := af, guard := none }).run P w = .ok (.value v) w := by
   have hr := ZAM (P := P) (ty := ty) (w := w) E hown cap
   have hv' : a.eval y = .slice none 0 cap := hv
   unfold execOp
   simp only [resolve, invoke, builtin, List.map_toArray, List.map_cons, List.map_nil, hse, hv', Sem.run_bind, Sem.run_pure, Result.andThen_ok]
   rw [hr]
   simp
  unfold Oper.wp
  rw [hrun]
  have := hk v v w
  simp only [List.append_nil] at this
  exact this hh (fun _ _ h => h) rfl
 | some ad =>
  have hch : ∀ k : Nat, ∃ u : Value, ∀ h : k < ys.length, w.cell? (ad.add k) = some u /\ u.oneCell' = true /\ R (Imm P0 B (ZU v e R xs :: hp)) w u ys[k] := fun k => by
   by_cases hk : k < ys.length
   ·obtain ⟨u, b, off, r1, r2, r3, r4, r5⟩ := c3 k hk
    cases r3
    exact ⟨u, fun _ => ⟨by rw [Addr.add_lit]; exact r5, r2, r1⟩⟩
   ·exact ⟨undef, fun h => absurd h hk⟩
  obtain ⟨f, hfch⟩ := Classical.axiomOfChoice hch
  obtain ⟨v', w', hr, r1, r2, r3⟩ := ZBN (ty := ty) E hh (ad := ad) (c := cap) (ys := ys) (news := (List.range ys.length).map f) (by simp) (fun j u hu => by
    obtain ⟨hjl, hju⟩ := List.getElem?_eq_some_iff.1 hu
    simp at hjl hju
    subst hju
    exact (hfch j hjl).1) (fun u hu => by
    simp only [List.mem_map, List.mem_range] at hu
    obtain ⟨j, hj, rfl⟩ := hu
    exact (hfch j hj).2.1) (fun k h1 h2 => by
    simp only [List.getElem_map, List.getElem_range]
    exact (hfch k h2).2.2) hlen hm
  have hrun : (execOp a.eval { dst := dst, op := .call { callee := .builtin .append, args := #[s, y], argTypes := #[t, t] }, type := ty, pos := ps, after := af, guard := none }).run P w = .ok (.value v') w' := by
   unfold execOp
   simp only [resolve, invoke, builtin, List.map_toArray, List.map_cons, List.map_nil, hse, hv, Sem.run_bind, Sem.run_pure, Result.andThen_ok, hr]
  unfold Oper.wp
  rw [hrun]
  exact hk v' v' w' r1 (fun d u hd => ZI (o := ZU v e R xs) (o' := ZU v' e R (xs ++ ys)) r2 r3 hd) rfl⟩
end
end
end Go.Proofs.YtmcllakdbgnfiaaGreatDoor
