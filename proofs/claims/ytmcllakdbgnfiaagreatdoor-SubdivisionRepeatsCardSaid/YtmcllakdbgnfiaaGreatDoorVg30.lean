/- Part 30: walks by contracts, and plain laws. -/
import Derived.Test.YtmcllakdbgnfiaaGreatDoorVg29
set_option linter.unusedVariables false
set_option linter.unusedSimpArgs false
set_option linter.unusedSectionVars false
set_option maxRecDepth 100000
set_option maxHeartbeats 4000000
namespace Go.Proofs.YtmcllakdbgnfiaaGreatDoor
section
open Go.RowKit

theorem mapT_car : MapT Tryz.prog 72 45 28 (.slice none 0 0) := ⟨Tryz.underlying72, fun w => by kernel_rfl⟩
theorem tyCar : TyI Tryz.prog 72 1 false := ⟨by kernel_rfl, Tryz.isAgg72⟩
theorem tyBp : TyI Tryz.prog 71 1 false := ⟨by kernel_rfl, Tryz.isAgg71⟩
theorem tyLf : TyI Tryz.prog 78 1 false := ⟨by kernel_rfl, Tryz.isAgg78⟩
theorem strB : StrT Tryz.prog 74 2 := ⟨fun b off i w hi => by
 have : i = 0 \/ i = 1 := by omega
 rcases this with rfl | rfl <;> go_simp⟩
abbrev CarM := List (Vx × Value × List Vx)
abbrev bldO (bs bm : Nat) (fv : Value) (F : Cx) (M : CarM) : List HObj :=
 [Zm bs 74 [dX fv, dX (.map (some bm))], ZU fv 28 ZF F, hMC bm kvV M, ZAL ZF M]
structure Bld (L : List Vx) (car : Vx -> List Vx) (M : CarM) : Prop where
 nodup : (M.map (·.1)).Nodup
 mem : ∀ v, v ∈ M.map (·.1) ↔ v ∈ L
 car : ∀ p ∈ M, p.2.2 = car p.1
 ok : ∀ p ∈ M, okV p.1
theorem Bld.nil (car : Vx -> List Vx) : Bld [] car [] := ⟨by simp, by simp, by simp, by simp⟩
theorem Bld.put {L : List Vx} {car : Vx -> List Vx} {M : CarM} (h : Bld L car M) {v : Vx} (hv : okV v) (cv : Value) : Bld (L ++ [v]) car (ZBP M v (cv, car v)) := by
 have hk := putC_keys M v (cv, car v)
 refine ⟨?_, fun x => ?_, fun p hp => ?_, fun p hp => ?_⟩
 ·rw [hk]
  split
  ·exact h.nodup
  ·rename_i hn
   rw [List.nodup_append]
   exact ⟨h.nodup, by simp, fun a ha b hb e => hn (by rw [<- List.mem_singleton.1 hb, <- e]; exact ha)⟩
 ·rw [hk, List.mem_append, List.mem_singleton, <- h.mem]
  split
  ·rename_i hm
   constructor
   ·exact .inl
   ·rintro (h | rfl)
    ·exact h
    ·exact hm
  ·rw [List.mem_append, List.mem_singleton]
 ·rcases putM_mem hp with rfl | hp
  ·rfl
  ·exact h.car p hp
 ·rcases putM_mem hp with rfl | hp
  ·exact hv
  ·exact h.ok p hp
theorem snoc_flat {F : Cx} {x : List Vx} : (F ++ [x]).flatten = F.flatten ++ x := by simp
theorem bld_take {F : Cx} {x : List Vx} {i : Nat} (h : i < x.length) : F.flatten ++ x.take (i + 1) = (F.flatten ++ x.take i) ++ [x[i]] := by
 rw [List.take_succ_eq_append_getElem h, List.append_assoc]
abbrev bodyO (bs bm : Nat) (fv : Value) (F : Cx) (M : CarM) (v3 v4 v5 : Value) (s : List Vx) (p : Nat -> Prop) (L : Nat -> Int) : List HObj :=
 [Zm bs 74 [dX fv, dX (.map (some bm))], ZU fv 28 ZF F, hMC bm kvV M, ZAL ZF M, Zu v3 (dP 1 false (dX (.pointer (some ⟨bs, 0, none⟩)))), Zu v4 (dP 1 false (dS ZF s)), Zu v5 (dP 1 false (dLab p L))]
theorem ishl_pow : ∀ n : Fin 9, ishl 1 (n.val : Int) = ((2 ^ n.val : Nat) : Int) := by decide +kernel
theorem SY.shlE {P : Program} {ops : Array Oper} {hp : List HObj} {fr : List Dat} {dst : Option Tmp} {ty : TypeId} {ps : String} {af : Array Edge} {g : Option (Nat × Bool)} {T T2 : TypeId} {x y : Operand} {p q c : Int} (h : ishl p q = c) (h0 : 0 <= q) (hx : OpD fr x (dI p)) (hy : OpD fr y (dI q)) : SY P ops hp { dst := dst, op := .binOp .shl T x y T2, type := ty, pos := ps, after := af, guard := g } fr (dI c) := h ▸ SY.shl hx hy h0
theorem SY.subE {P : Program} {ops : Array Oper} {hp : List HObj} {fr : List Dat} {dst : Option Tmp} {ty : TypeId} {ps : String} {af : Array Edge} {g : Option (Nat × Bool)} {T T2 : TypeId} {x y : Operand} {p q c : Int} (h : p - q = c) (h0 : -9223372036854775808 <= c /\ c <= 9223372036854775807) (hx : OpD fr x (dI p)) (hy : OpD fr y (dI q)) : SY P ops hp { dst := dst, op := .binOp .sub T x y T2, type := ty, pos := ps, after := af, guard := g } fr (dI c) := h ▸ SY.sub hx hy (h.symm ▸ h0)
theorem perm_bld {a b c d x y z w : HObj} {hp : List HObj} : (a :: b :: c :: d :: x :: y :: z :: w :: hp).Perm (x :: y :: z :: w :: a :: b :: c :: d :: hp) := by
 have h : (([a, b, c, d] ++ [x, y, z, w]) ++ hp).Perm (([x, y, z, w] ++ [a, b, c, d]) ++ hp) := List.Perm.append_right _ List.perm_append_comm
 simpa using h
theorem perm_22 {a b c d : HObj} {hp : List HObj} : (a :: b :: c :: d :: hp).Perm (c :: d :: a :: b :: hp) := by
 have h : (([a, b] ++ [c, d]) ++ hp).Perm (([c, d] ++ [a, b]) ++ hp) := List.Perm.append_right _ List.perm_append_comm
 simpa using h
def divH (bs bm : Nat) (v3 v4 v5 : Value) (s : List Vx) (p : Nat -> Prop) (L : Nat -> Int) (car : Vx -> List Vx) (F : Cx) (pre : List (List Nat)) (hs : List HObj) : Prop :=
 ∃ fv M, Bld (F ++ pre.map (Zh L s)).flatten car M /\ hs = bodyO bs bm fv (F ++ pre.map (Zh L s)) M v3 v4 v5 s p L
set_option maxHeartbeats 16000000 in
theorem divide_c (bs bm : Nat) (fv0 : Value) (F0 : Cx) (M0 : CarM) (s : List Vx) (p : Nat -> Prop) (L : Nat -> Int) (car : Vx -> List Vx) (hs0 : 0 < s.length) (hs5 : s.length <= 5) (hF : F0.length <= 100000) (hB : Bld F0.flatten car M0)
  (hpl : ∀ bl ∈ ZBw (2 ^ s.length - 1), ∀ i, i < s.length -> p (ZA0 bl 0 (fun _ => 0) i))
  (hbl : ∀ bl ∈ ZBw (2 ^ s.length - 1), ∀ b ∈ bl, b < 1048576)
  (hsn : ∀ bl ∈ ZBw (2 ^ s.length - 1), ∀ i, i < s.length -> ZA0 bl 0 (fun _ => 0) i < 1048576)
  (hcar : ∀ bl ∈ ZBw (2 ^ s.length - 1), ∀ (i : Nat) (h : i < (Zh L s bl).length), okV (Zh L s bl)[i] /\ car (Zh L s bl)[i] = atB s (ZA0 bl 0 (fun _ => 0) i)) :
  CallC Tryz.prog 36 ([dX (.pointer (some ⟨bs, 0, none⟩)), dS ZF s, dLab p L] ++ ([] : List Value).map dX) (bldO bs bm fv0 F0 M0)
   (fun _ hp2 => ∃ fv M, Bld (F0 ++ (ZBw (2 ^ s.length - 1)).map (Zh L s)).flatten car M /\ hp2 = bldO bs bm fv (F0 ++ (ZBw (2 ^ s.length - 1)).map (Zh L s)) M) := ⟨fun P0 B w0 hp vs W hh hl0 hv => by
 refine (callsIn_wide (n := 0)).1 (callsIn_of_wp_marks Tryz.func36 rfl trivial ?_ rfl)
 refine wpIn_wide.2 ?_
 have hf0 := ZAg (m := 49) hl0 hv
 have hsz : vs.toArray.size = 3 := by simpa using hl0
 rw [hsz]
 have hnt : Tryz.f36.ntmps = 52 := rfl
 rw [hnt]
 simp only [List.length_cons, List.length_nil, Nat.reduceAdd, Nat.reduceSub, List.replicate_succ, List.replicate_zero, List.cons_append, List.nil_append, List.map_nil] at hf0 hh ⊢
 have hpow : (2 ^ s.length - 1 : Nat) < 32 := by
  have : s.length = 1 \/ s.length = 2 \/ s.length = 3 \/ s.length = 4 \/ s.length = 5 := by omega
  rcases this with h | h | h | h | h <;> rw [h] <;> decide
 have hpow0 : (2 ^ s.length - 1 : Nat) ≠ 0 := by
  have : 2 ^ 1 <= 2 ^ s.length := Nat.pow_le_pow_right (by decide) hs0
  omega
 have hshl := ishl_pow ⟨s.length, by omega⟩
 simp only at hshl
 refine wp_seq (Code.wp_mono ?_ (WC.on (Q := fun e f q => e = .normal /\ f = [dX (.pointer (some ⟨bs, 0, none⟩)), dS ZF s, dLab p L, dP 1 false (dX (.pointer (some ⟨bs, 0, none⟩))), dP 1 false (dS ZF s), dP 1 false (dLab p L)] ++ List.replicate 46 (dX undef) /\ q = bldO bs bm fv0 F0 M0 ++ hp) ?_ hh hf0))
 rotate_left
 ·((repeat' (first | refine WL.nil ?_ | refine WC.region ?_ | ((first | apply WL.opN | apply WD.opN); (focus ((first | (apply SY.box; (exact oD); (exact hD)) | fail); all_goals infer_instance)); dsimp only [ZB, z0, z1]))); all_goals (first | ((repeat clear hK); (repeat clear Kx))))
  exact ⟨rfl, rfl, rfl⟩
 rintro e a1 w1 ⟨f1, q1, ⟨rfl, rfl, rfl⟩, hh1, hf1⟩
 show Code.wp _ _ _ _ _
 simp only [List.replicate_succ, List.replicate_zero, List.cons_append, List.nil_append] at hf1 hh1
 refine wp_seq (Code.wp_mono ?_ (WC.on (Q := fun e f q => e = .normal /\ ∃ v3 v4 v5 vr, f = [dX (.pointer (some ⟨bs, 0, none⟩)), dS ZF s, dLab p L, dX v3, dX v4, dX v5, dX undef, dX undef, dX undef, dX undef, dS ZF s, dI (s.length : Int), dI ((2 ^ s.length : Nat) : Int), dI ((2 ^ s.length - 1 : Nat) : Int), dX (.func (.func 110) #[] [vr].toArray)] ++ List.replicate 37 (dX undef)
   /\ q = bodyO bs bm fv0 F0 M0 v3 v4 v5 s p L ++ ([Zu vr (dP 1 false (dI ((2 ^ s.length - 1 : Nat) : Int)))] ++ hp)) ?_ hh1 hf1))
 rotate_left
 ·((repeat' (first | ((first | apply WL.opN | apply WD.opN); exact yF; dsimp only [ZB, z0, z1]) | refine WL.nil ?_ | refine WC.region ?_ |  (refine WL.callC (hp1 := []) (caps := []) (ordered_k (2 ^ s.length - 1)) Tryz.call67 OpD.f (by (exact aD)) ?_; rintro d' hp2 ⟨vr, rfl, rfl⟩; dsimp only [ZB, z0, z1, List.cons_append, List.nil_append]; refine WL.pin 5 rfl fun v5 => ?_; refine WL.pin 4 rfl fun v4 => ?_; refine WL.pin 3 rfl fun v3 => ?_; dsimp only [z0, z1]; refine WL.perm perm_bld ?_) | ((first | apply WL.opN | apply WD.opN); (focus ((first | (exact SY.shlE hshl (by omega) OpD.i (OpD.t rfl)) | (refine SY.subE (c := ((2 ^ s.length - 1 : Nat) : Int)) (by omega) (by omega) (OpD.t rfl) OpD.i) | (apply SY.len; (exact oD); (exact nD); (exact uD)) | fail); all_goals infer_instance)); dsimp only [ZB, z0, z1]))); all_goals (first | ((repeat clear hK); (repeat clear Kx))))
  exact ⟨rfl, _, _, _, _, rfl, rfl⟩
 rintro e a2 w2 ⟨f2, q2, ⟨rfl, v3, v4, v5, vr, rfl, rfl⟩, hh2, hf2⟩
 show Code.wp _ _ _ _ _
 simp only [List.replicate_succ, List.replicate_zero, List.cons_append, List.nil_append] at hf2 hh2
 refine wp_block ?_
 refine wp_rangeC (hs0 := bodyO bs bm fv0 F0 M0 v3 v4 v5 s p L) (hk := [Zu vr (dP 1 false (dI ((2 ^ s.length - 1 : Nat) : Int)))]) (hp := hp) (xs := ZBw (2 ^ s.length - 1)) (D := fun bl => dIf (bl ∈ ZBw (2 ^ s.length - 1)) (dS ZCE (ZAA bl))) (divH bs bm v3 v4 v5 s p L car F0) _
  (fun bl => [dX (.pointer (some ⟨bs, 0, none⟩)), dA, dA, dX v3, dX v4, dX v5, dIf (bl ∈ ZBw (2 ^ s.length - 1)) (dS ZCE (ZAA bl)), dX undef, dX undef, dX undef, dA, dX (.int .i64 (s.length : Int)), dX (.int .i64 ((2 ^ s.length : Nat) : Int)), dX (.int .i64 ((2 ^ s.length - 1 : Nat) : Int)), dX (.func (.func 110) #[] [vr].toArray), dIf (bl ∈ ZBw (2 ^ s.length - 1)) (dS ZCE (ZAA bl)), dX undef, dX undef, dX undef, dX undef, dX undef, dX undef, dX undef, dX undef, dX undef, dX undef, dX undef, dX undef, dX undef, dX undef, dX undef, dX undef, dX undef, dX undef, dX undef, dX undef, dX undef, dX undef, dX undef, dX undef, dX undef, dX undef, dX undef, dX undef, dX undef, dX undef, dX undef, dX undef, dX undef, dX undef, dX undef, dX undef]) hh2 hf2 (OpD.t rfl) Tryz.call110 (oseq_c (2 ^ s.length - 1) hpow0 hpow vr) ⟨fv0, M0, by simpa using hB, by simp⟩ (by repeat (first | exact FixF.nil | apply FixF.x | apply FixF.a)) ?_ ?_ ?_
 ·intro l bl q
  refine WR.region rfl (I.WL.op rfl (SY.assign (OpD.t rfl)) (I.WL.nil ⟨rfl, rfl, rfl⟩))
 ·rintro l pre bl hs q hlt ⟨fv, M, hB1, rfl⟩
  refine WR.know (t := 15) rfl (fun _ _ _ h => h.1) fun hmem => ?_
  rw [dIf_eq hmem]
  have hpre : (F0 ++ pre.map (Zh L s)).length <= 1000000 := by
   have := ord_len s.length hs5
   simp; omega
  refine WR.mono (Q := fun e _ q' => e = .normal /\ ∃ fv' M', Bld ((F0 ++ pre.map (Zh L s)) ++ [Zh L s bl]).flatten car M' /\ q' = bodyO bs bm fv' ((F0 ++ pre.map (Zh L s)) ++ [Zh L s bl]) M' v3 v4 v5 s p L ++ q) ?_ (fun e f p ⟨he, fv', M', hB', hq⟩ => ⟨he, _, ⟨fv', M', by rw [List.map_append, List.map_cons, List.map_nil, <- List.append_assoc]; exact hB', rfl⟩, by rw [List.map_append, List.map_cons, List.map_nil, <- List.append_assoc]; exact hq⟩)
  generalize F0 ++ pre.map (Zh L s) = F at *
  have hbb := hbl bl hmem
  have hss := hsn bl hmem
  have hpp := hpl bl hmem
  have hcc := hcar bl hmem
  refine WR.perm (List.Perm.swap _ _ _) ?_
  refine WR.block (WR.use 3 rfl (.tail _ (.tail _ (.tail _ (.tail _ (.head _))))) (WR.use 4 rfl (.tail _ (.tail _ (.tail _ (.tail _ (.tail _ (.head _)))))) (WR.use 5 rfl (.tail _ (.tail _ (.tail _ (.tail _ (.tail _ (.tail _ (.head _))))))) ?_)))
  dsimp only [z0, z1]
  (repeat' (first |  (refine WR.drawW (β := Value) 7 (fun v' => ZU v' 28 ZF (F ++ [Zh L s bl]) :: Zm bs 74 [dX fv, dX (.map (some bm))] :: hMC bm kvV M :: ZAL ZF M :: Zu v3 (dP 1 false (dX (.pointer (some ⟨bs, 0, none⟩)))) :: Zu v4 (dP 1 false (dS ZF s)) :: Zu v5 (dP 1 false (dLab p L)) :: q) (fun v' => dX v') _ rfl (by kernel_rfl) (by kernel_rfl) rfl ?_; simp only [List.take_succ_cons, List.take_zero, List.drop_succ_cons, List.drop_zero]) | ((first | apply I.WL.opN | apply WD.opN); exact yF; dsimp only [ZB, z0, z1]) | refine I.WL.nil ?_ | refine ZB1 fun Kx hK => ?_ | (refine hK _ _ ?_; clear hK) | refine WR.region rfl ?_ | ((first | apply I.WL.opN | apply WD.opN); (focus ((first | (apply SY.load; exact tyLf; exact OpD.t rfl) | (apply SY.call (facet_p p L s bl (by omega) hbb hpp) Tryz.call69; (exact aD)) | fail); all_goals infer_instance)); dsimp only [ZB, z0, z1])))
  (repeat' (first | refine WDs.nil ?_ | (apply WDs.op; (focus (intro c; apply ZG; (exact ZV rfl); ((first | (apply SY.load; exact tyBp; exact OpD.t rfl) | (exact ZBI (OpD.t rfl)) | (refine Z7 strB (OpD.t rfl) (by decide)) | (refine Zp tySS (OpD.t rfl) (HH.mem (.tail _ (.head _)) (fun _ => .tail _ (.head _))) rfl) | ((first | apply SY.move | apply SY.assign | apply SY.lss) <;> (exact oD)) | (apply SY.build1'; (exact eD); ((try simp only [List.map_cons, List.map_nil]); (repeat (first | exact ZAj | (apply ZAU; (first | exact OpD.t rfl | exact OpD.i | exact OpD.b | exact OpD.tle rfl (by first | exact ZN | exact ZK (by decide)) | exact ⟨ZN⟩ | exact ⟨ZK (by decide)⟩))))); rfl; rfl; (intro _; first | exact ZAs | exact ZBt | exact ZBT | exact ZB5); (exact (by simp))) | fail); all_goals infer_instance))); dsimp only [ZB, z0, z1])))
  refine ⟨SW.app1 elSi (OpD.t rfl) (OpD.t rfl) (by decide) (by simp; omega), fun v' => ?_⟩
  dsimp only [ZB, z0, z1]
  refine I.ZBc (.head _) fun ⟨ad, c, hv'⟩ => ?_
  have hxl : (Zh L s bl).length = s.length := ZAp L s bl
  (repeat' (first | ((first | apply I.WL.opN | apply WD.opN); exact yF; dsimp only [ZB, z0, z1]) | refine I.WL.nil ?_ | refine ZB1 fun Kx hK => ?_ | (refine hK _ _ ?_; clear hK) | refine WR.region rfl ?_ |  (refine I.WL.perm (List.Perm.swap _ _ _) (I.WL.storeS tySS (OpD.t rfl) (OpD.t rfl) (ZW (by rw [hv']; rfl)) (by simp) ?_); dsimp only [ZB, z0, z1, Nat.add_zero]) | ((first | apply I.WL.opN | apply WD.opN); (focus ((first | (exact ZBI (OpD.t rfl)) | (refine Z7 strB (OpD.t rfl) (by decide)) | (apply SY.call (snapshots_p s.length bl (by omega) hbb) Tryz.call75; (exact aD)) | (apply SY.len; (exact oD); (exact nD); (exact uD)) | fail); all_goals infer_instance)); dsimp only [ZB, z0, z1]) | refine WR.block ?_))
  rw [rowF_len]
  (refine WR.loopU (X := Nat × CarM) (fun x => [(35, dI (x.1 : Int)), (8, dA), (9, dA), (36, dA), (37, dA), (38, dA), (39, dA), (40, dA), (41, dA), (42, dA), (43, dA), (44, dA), (45, dA), (46, dA), (47, dA), (48, dA), (49, dA), (50, dA), (51, dA)]) (fun x => (Zm bs 74 [dX v', dX (.map (some bm))] :: ZU v' 28 ZF (F ++ [Zh L s bl]) :: hMC bm kvV x.2 :: ZAL ZF x.2 :: Zu v3 (dP 1 false (dX (.pointer (some ⟨bs, 0, none⟩)))) :: Zu v4 (dP 1 false (dS ZF s)) :: Zu v5 (dP 1 false (dLab p L)) :: q)) (fun x => s.length - x.1) (fun x => x.1 <= s.length /\ Bld (F.flatten ++ (Zh L s bl).take x.1) car x.2) (0, M) ?start ?frame0 ?objs0 ?round)
  case start => exact ⟨Nat.zero_le _, by simpa using hB1⟩
  case frame0 => ((try dsimp only [ZL, z0, z1]); repeat (first | exact LeF.nil | refine ZD (k := ?_)))
  case objs0 => rfl
  case round =>
   rintro ⟨i, M1⟩ ⟨g1, g2⟩
   simp only at g1 g2
   dsimp only [ZL, z0, z1]
   by_cases hi : i < s.length
   ·have hix : i < (Zh L s bl).length := by omega
    obtain ⟨c1, c2⟩ := hcc i hix
    ((repeat' (first |  (apply WR.drawTail 11; kernel_rfl; kernel_rfl; rfl; simp only [List.take_succ_cons, List.take_zero, List.drop_succ_cons, List.drop_zero]) | ((first | apply I.WL.opN | apply WD.opN); exact yF; dsimp only [ZB, z0, z1]) | refine I.WL.nil ?_ | refine WD.nil ?_ | refine ZB1 fun Kx hK => ?_ | (refine hK _ _ ?_; clear hK) | refine WR.region rfl ?_ |  (refine I.WL.perm perm_22 (I.WL.putMC (R := ZF) mapT_car keyT_V (OpD.t rfl) (OpD.t rfl) ⟨fun _ _ _ h => h⟩ (OpD.t rfl) c1 g2.ok g2.nodup fun cv => ?_); refine I.WL.perm perm_22 ?_; dsimp only [ZB]) | ((first | apply I.WL.opN | apply WD.opN); (focus ((first | (refine SY.ixF elI (OpD.t rfl) (OpD.t rfl) hi) | (apply SY.load; exact tyBp; exact OpD.t rfl) | (exact ZBI (OpD.t rfl)) | (refine Z7 strB (OpD.t rfl) (by decide)) | (refine Zp tyCar (OpD.t rfl) (.head _) rfl) | (refine ZA3 (R := RV) (_gR := inferInstance) elV (OpD.t rfl) (OpD.t rfl) hix) | (apply SY.call (faceM_p s (ZA0 bl 0 (fun _ => 0) i) (by omega) (hss i hi)) Tryz.call39; (exact aD)) | ((first | apply SY.move | apply SY.assign | apply SY.lss) <;> (exact oD)) | ((first | apply SY.add | apply SY.sub) <;> first | exact oD | omega) | fail); all_goals infer_instance)); dsimp only [ZB, z0, z1]) | (apply WR.condD; (exact oD); all_goals (intro h; try exact xD)) | refine WR.skip ?_ | refine WR.block ?_ | refine ThenD.n ?_)); all_goals (first | ((repeat clear hK); (repeat clear Kx))))
    all_goals try (exfalso; first | contradiction | omega)
    rw [<- c2]
    (refine ⟨(i + 1, ZBP M1 (Zh L s bl)[i] (cv, car (Zh L s bl)[i])), ?_, by first | omega | (simp only; omega), rfl, ?_⟩; rotate_left; ((try dsimp only [ZL, z0, z1]); repeat (first | exact LeF.nil | refine ZD (k := ?_))); (try dsimp only))
    exact ⟨by omega, by rw [bld_take hix]; exact g2.put c1 cv⟩
   ·((repeat' (first | refine I.WL.nil ?_ | refine ZB1 fun Kx hK => ?_ | (refine hK _ _ ?_; clear hK) | refine WR.region rfl ?_ | ((first | apply I.WL.opN | apply WD.opN); (focus ((first | ((first | apply SY.move | apply SY.assign | apply SY.lss) <;> (exact oD)) | fail); all_goals infer_instance)); dsimp only [ZB, z0, z1]) | (apply WR.condD; (exact oD); all_goals (intro h; try exact xD)) | refine WR.exit ?_ | refine ThenD.x ?_ | refine InBlockD.x ?_ | refine InBlockD.n ?_)); all_goals (first | ((repeat clear hK); (repeat clear Kx))))
    all_goals try (exfalso; first | contradiction | omega)
    rw [List.take_of_length_le (by omega)] at g2
    exact ⟨rfl, v', M1, by rw [snoc_flat]; exact g2, rfl⟩
 ·rintro k hs w3 ⟨fv, M, hB1, rfl⟩ hh3 hrd
  show LeavesInM _ _ _ _ _ _ _ _ _
  rw [hf2.defers]
  have hK : w3.heap[k]? = some (.deferred (some [])) := hh3.ok (ZAW k (.deferred (some []))) (by simp)
  refine ⟨by simp, .inl ⟨_, _, rfl, run_takeDeferred hK, _, results_none rfl _ _ _, ?_⟩⟩
  have hh6 := (Hp.putObj (o' := .deferred none) hh3).drop
  obtain ⟨hh7, _⟩ := hh6.perm perm_bld.symm
  exact ⟨_, dA, bldO bs bm fv _ M, rfl, ⟨fv, M, hB1, rfl⟩, hh7.drop.drop.drop.drop, trivial⟩⟩
end
section
def placeP (s : List Vx) (bl : List Nat) : List Vx := s.zipIdx.map fun p => (p.1.1, ((ZA0 bl 0 (fun _ => 0) p.2 : Nat) : Int))
def natsB (l : List Int) : List Nat := l.map Int.toNat
theorem nats_cast (bl : List Nat) : natsB (bl.map fun b : Nat => (b : Int)) = bl := by
 unfold natsB
 rw [List.map_map]
 have e : (Int.toNat ∘ fun b : Nat => (b : Int)) = id := funext fun b => Int.toNat_natCast b
 rw [e, List.map_id]
def facetP (s : List Vx) (l : List Int) : List Vx × Int :=
 if Zn s ≠ 0 then ([], Zn s) else if Zy s = false then ([], 3) else if divP l ((2 ^ s.length - 1 : Nat) : Int) = false then ([], 15) else (placeP s (natsB l), 0)
end
end Go.Proofs.YtmcllakdbgnfiaaGreatDoor
