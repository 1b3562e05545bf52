/- Part 17: walks by contracts, and plain laws. -/
import Derived.Test.YtmcllakdbgnfiaaGreatDoorVg16
set_option linter.unusedVariables false
set_option linter.unusedSimpArgs false
set_option linter.unusedSectionVars false
set_option maxRecDepth 100000
set_option maxHeartbeats 4000000
namespace Go.Proofs.YtmcllakdbgnfiaaGreatDoor
section
def divP : List Int -> Int -> Bool
 | [], rest => decide (rest = 0)
 | b :: l, rest => if b <= 0 \/ iand b rest ≠ b then false else divP l (iandnot rest b)
def divR : List Int -> Nat -> Int -> Bool
 | [], n, all => decide (all = ((2 ^ n - 1 : Nat) : Int))
 | b :: l, n, all => if b < 1 \/ ((2 ^ n : Nat) : Int) <= b \/ iand all b ≠ 0 then false else divR l n (ior all b)
theorem iand_le (b : Int) {r : Nat} (hr : r < 9223372036854775808) : iand b (r : Int) <= (r : Int) := by
 have h : (BitVec.ofInt 64 b &&& BitVec.ofInt 64 (r : Int)).toNat <= r := by
  rw [BitVec.toNat_and, bv_cast hr]
  exact Nat.and_le_right
 unfold iand
 rw [wrap_cast (by omega)]
 omega
theorem rest_next {n all rest b : Nat} (h1 : all ||| rest = 2 ^ n - 1) (h2 : all &&& rest = 0) (hb : b &&& rest = b) : (all ||| b) ||| (rest ^^^ (rest &&& b)) = 2 ^ n - 1 /\ (all ||| b) &&& (rest ^^^ (rest &&& b)) = 0 := by
 have e : ∀ i, (b.testBit i && rest.testBit i) = b.testBit i := fun i => by rw [<- Nat.testBit_and, hb]
 have dis : ∀ i, (all.testBit i && rest.testBit i) = false := fun i => by rw [<- Nat.testBit_and, h2, Nat.zero_testBit]
 constructor
 ·rw [<- h1]
  apply Nat.eq_of_testBit_eq
  intro i
  simp only [Nat.testBit_or, Nat.testBit_xor, Nat.testBit_and]
  have k1 := e i
  cases ha : all.testBit i <;> cases hr : rest.testBit i <;> cases hbi : b.testBit i <;> simp_all
 ·apply Nat.eq_of_testBit_eq
  intro i
  simp only [Nat.testBit_or, Nat.testBit_xor, Nat.testBit_and, Nat.zero_testBit]
  have k1 := e i
  have k2 := dis i
  cases ha : all.testBit i <;> cases hr : rest.testBit i <;> cases hbi : b.testBit i <;> simp_all
theorem div_go {n : Nat} (hn : n <= 62) : ∀ (l : List Int) (all rest : Nat), all ||| rest = 2 ^ n - 1 -> all &&& rest = 0 -> divR l n (all : Int) = divP l (rest : Int)
 | [], all, rest, h1, h2 => by
  show decide _ = decide _
  have hz : all = 2 ^ n - 1 ↔ rest = 0 := by
   constructor
   ·intro h
    have : all &&& rest = rest := by
     rw [h]
     have hr : rest <= 2 ^ n - 1 := by rw [<- h1]; exact Nat.right_le_or
     rw [Nat.and_comm, Nat.and_two_pow_sub_one_eq_mod]
     exact Nat.mod_eq_of_lt (by have := Nat.two_pow_pos n; omega)
    rw [<- this]; exact h2
   ·intro h
    rw [h, Nat.or_zero] at h1
    exact h1
  exact decide_eq_decide.2 ⟨fun q => by have := hz.1 (by omega); omega, fun q => by have := hz.2 (by omega); omega⟩
 | b :: l, all, rest, h1, h2 => by
  have hp : 2 ^ n <= 2 ^ 62 := Nat.pow_le_pow_right (by decide) hn
  have hpos := Nat.two_pow_pos n
  have ha : all <= 2 ^ n - 1 := by rw [<- h1]; exact Nat.left_le_or
  have hr : rest <= 2 ^ n - 1 := by rw [<- h1]; exact Nat.right_le_or
  have h62 : (2 : Nat) ^ 62 = 4611686018427387904 := by decide
  unfold divR divP
  by_cases hb0 : b < 1
  ·rw [if_pos (.inl hb0), if_pos (.inl (by omega))]
  by_cases hbn : ((2 ^ n : Nat) : Int) <= b
  ·have := iand_le b (r := rest) (by omega)
   rw [if_pos (.inr (.inl hbn)), if_pos (.inr (by omega))]
  obtain ⟨k, rfl⟩ : ∃ k : Nat, b = (k : Int) := ⟨b.toNat, by omega⟩
  have hk : k < 2 ^ n := by omega
  rw [iand_cast (by omega) (by omega), iand_cast (by omega) (by omega)]
  have hm := mask_rest h1 h2 hk
  by_cases hc : k &&& rest = k
  ·have hz := hm.1 hc
   rw [if_neg (by rintro (h | h | h); exact hb0 h; exact hbn h; exact h (by rw [hz]; rfl)), if_neg (by rintro (h | h); omega; exact h (by rw [hc]))]
   rw [ior_cast (by omega) (by omega), iandnot_cast (by omega) (by omega)]
   obtain ⟨g1, g2⟩ := rest_next h1 h2 hc
   exact div_go hn l _ _ g1 g2
  ·rw [if_pos (.inr (.inr fun q => hc (hm.2 (Int.ofNat.inj q)))), if_pos (.inr fun q => hc (Int.ofNat.inj q))]
theorem div_same {n : Nat} (hn : n <= 62) (l : List Int) : divR l n 0 = divP l ((2 ^ n - 1 : Nat) : Int) := div_go hn l 0 (2 ^ n - 1) (Nat.zero_or _) (Nat.zero_and _)
end
section
def ZA0 : List Nat -> Nat -> (Nat -> Nat) -> Nat -> Nat
 | [], _, o => o
 | b :: l, m, o => ZA0 l (m ||| b) fun i => if bitB b i = true then m ||| b else o i
def divN (n : Nat) : List Nat -> Nat -> Prop
 | [], all => all = 2 ^ n - 1
 | b :: l, all => b < 2 ^ n /\ all &&& b = 0 /\ divN n l (all ||| b)
theorem div_N {n : Nat} (hn : n <= 62) : ∀ (l : List Int) (all : Nat), all < 2 ^ n -> divR l n (all : Int) = true -> ∃ bl : List Nat, l = bl.map (fun b : Nat => (b : Int)) /\ divN n bl all
 | [], all, _, h => ⟨[], rfl, by
  have h' : decide ((all : Int) = ((2 ^ n - 1 : Nat) : Int)) = true := h
  rw [decide_eq_true_eq] at h'
  show all = 2 ^ n - 1
  omega⟩
 | b :: l, all, ha, h => by
  have hp : 2 ^ n <= 2 ^ 62 := Nat.pow_le_pow_right (by decide) hn
  have h62 : (2 : Nat) ^ 62 = 4611686018427387904 := by decide
  unfold divR at h
  by_cases hc : b < 1 \/ ((2 ^ n : Nat) : Int) <= b \/ iand (all : Int) b ≠ 0
  ·rw [if_pos hc] at h; cases h
  ·rw [if_neg hc] at h
   have h1 : ¬ b < 1 := fun q => hc (.inl q)
   have h2 : ¬ ((2 ^ n : Nat) : Int) <= b := fun q => hc (.inr (.inl q))
   have h3 : iand (all : Int) b = 0 := Classical.byContradiction fun q => hc (.inr (.inr q))
   obtain ⟨k, rfl⟩ : ∃ k : Nat, b = (k : Int) := ⟨b.toNat, by omega⟩
   have hk : k < 2 ^ n := by omega
   rw [iand_cast (by omega) (by omega)] at h3
   rw [ior_cast (by omega) (by omega)] at h
   obtain ⟨bl, rfl, hd⟩ := div_N hn l (all ||| k) (Nat.or_lt_two_pow ha hk) h
   exact ⟨k :: bl, rfl, hk, by omega, hd⟩
end
section
open Go.RowKit

def chroP (s : List Vx) : Int := if Zn s ≠ 0 then Zn s else if Zy s then 0 else 3
theorem chromatic_p (s : List Vx) : Fn Tryz.prog 68 [dS ZF s] (dI (chroP s)) := by
 by_cases h0 : Zn s = 0
 ·have hc := chrom_p s
  have e : chromV s = (Zy s, 0) := by unfold chromV; rw [if_neg (by simp [h0])]
  rw [e] at hc
  have hk := chk_p s
  rw [h0] at hk
  have e2 : chroP s = if Zy s then 0 else 3 := by unfold chroP; rw [if_neg (by simp [h0])]
  rw [e2]
  cases hd : Zy s <;> rw [hd] at hc
  ·(refine ZE Tryz.func68 rfl rfl ?_; simp only [Tryz.ntmps68, List.length_cons, List.length_nil, Nat.reduceAdd, Nat.reduceSub, List.replicate_succ, List.replicate_zero, List.cons_append, List.nil_append])
   ((repeat' (first | (apply WL.opN; exact yF; dsimp only [ZB, z0, z1]) | refine WL.nil ?_ | refine ZA fun Kx hK => ?_ | (refine hK _ _ ?_; clear hK) | refine WC.region ?_ | (apply WL.opN; (focus ((first | (apply SY.call (hk) Tryz.call88; (exact aD)) | (apply SY.call (hc) Tryz.call72; (exact aD)) | ((first | apply SY.move | apply SY.assign | apply SY.neq | apply SY.not) <;> (exact oD)) | (apply SY.extract; (exact oD); rfl) | fail); all_goals infer_instance)); dsimp only [ZB, z0, z1]) | (apply ZH; (exact oD); all_goals (intro h; try exact xD)) | (apply Zk; (exact oD); all_goals (intro h; try exact xD)) | refine WC.skip ?_ | refine WC.ret ?_ | refine ThenD.r ?_)); all_goals (first | ((repeat clear hK); (repeat clear Kx))))
   (refine ⟨trivial, _, rfl, ?_⟩; exact fD)
  ·(refine ZE Tryz.func68 rfl rfl ?_; simp only [Tryz.ntmps68, List.length_cons, List.length_nil, Nat.reduceAdd, Nat.reduceSub, List.replicate_succ, List.replicate_zero, List.cons_append, List.nil_append])
   ((repeat' (first | (apply WL.opN; exact yF; dsimp only [ZB, z0, z1]) | refine WL.nil ?_ | refine ZA fun Kx hK => ?_ | (refine hK _ _ ?_; clear hK) | refine WC.region ?_ | (apply WL.opN; (focus ((first | (apply SY.call (hk) Tryz.call88; (exact aD)) | (apply SY.call (hc) Tryz.call72; (exact aD)) | ((first | apply SY.move | apply SY.assign | apply SY.neq | apply SY.not) <;> (exact oD)) | (apply SY.extract; (exact oD); rfl) | fail); all_goals infer_instance)); dsimp only [ZB, z0, z1]) | (apply ZH; (exact oD); all_goals (intro h; try exact xD)) | (apply Zk; (exact oD); all_goals (intro h; try exact xD)) | refine WC.skip ?_ | refine WC.ret ?_)); all_goals (first | ((repeat clear hK); (repeat clear Kx))))
   (refine ⟨trivial, _, rfl, ?_⟩; exact fD)
 ·have hk := chk_p s
  have e2 : chroP s = Zn s := by unfold chroP; rw [if_pos h0]
  rw [e2]
  (refine ZE Tryz.func68 rfl rfl ?_; simp only [Tryz.ntmps68, List.length_cons, List.length_nil, Nat.reduceAdd, Nat.reduceSub, List.replicate_succ, List.replicate_zero, List.cons_append, List.nil_append])
  ((repeat' (first | (apply WL.opN; exact yF; dsimp only [ZB, z0, z1]) | refine WL.nil ?_ | refine ZA fun Kx hK => ?_ | (refine hK _ _ ?_; clear hK) | refine WC.region ?_ | (apply WL.opN; (focus ((first | (apply SY.call (hk) Tryz.call88; (exact aD)) | ((first | apply SY.move | apply SY.assign | apply SY.neq | apply SY.not) <;> (exact oD)) | fail); all_goals infer_instance)); dsimp only [ZB, z0, z1]) | (apply ZH; (exact oD); all_goals (intro h; try exact xD)) | refine WC.ret ?_ | refine ThenD.r ?_)); all_goals (first | ((repeat clear hK); (repeat clear Kx))))
  all_goals first | (refine ⟨trivial, _, rfl, ?_⟩; exact fD) | (exfalso; omega)
theorem itself_p (m : Int) : Fn Tryz.prog 70 [dI m] (dI m) := by
 (refine ZE Tryz.func70 rfl rfl ?_; simp only [Tryz.ntmps70, List.length_cons, List.length_nil, Nat.reduceAdd, Nat.reduceSub, List.replicate_succ, List.replicate_zero, List.cons_append, List.nil_append])
 ((repeat' (first | (apply WL.opN; exact yF; dsimp only [ZB, z0, z1]) | refine WL.nil ?_ | refine ZA fun Kx hK => ?_ | (refine hK _ _ ?_; clear hK) | refine WC.region ?_ | refine WC.ret ?_)); all_goals (first | ((repeat clear hK); (repeat clear Kx))))
 (refine ⟨trivial, _, rfl, ?_⟩; exact fD)
def fillF (b m i : Nat) (o : Nat -> Nat) (k : Nat) : Nat := if k < i /\ bitB b k = true then m ||| b else o k
theorem fill_zero (b m : Nat) (o : Nat -> Nat) : fillF b m 0 o = o := funext fun k => by unfold fillF; rw [if_neg (by omega)]
theorem fill_set {n b m i : Nat} {o : Nat -> Nat} (hb : bitB b i = true) : (rowF n (fillF b m i o)).set i ((m ||| b : Nat) : Int) = rowF n (fillF b m (i + 1) o) := by
 rw [rowF_set]
 refine rowF_congr fun k _ => ?_
 unfold fillF
 by_cases hk : k = i
 ·subst hk
  rw [if_pos rfl, if_pos ⟨by omega, hb⟩]
 ·rw [if_neg hk]
  by_cases hlt : k < i /\ bitB b k = true
  ·rw [if_pos hlt, if_pos ⟨by omega, hlt.2⟩]
  ·rw [if_neg hlt, if_neg fun q => hlt ⟨by omega, q.2⟩]
theorem fill_skip {n b m i : Nat} {o : Nat -> Nat} (hb : bitB b i = false) : rowF n (fillF b m i o) = rowF n (fillF b m (i + 1) o) := by
 refine rowF_congr fun k _ => ?_
 unfold fillF
 by_cases hlt : k < i /\ bitB b k = true
 ·rw [if_pos hlt, if_pos ⟨by omega, hlt.2⟩]
 ·rw [if_neg hlt, if_neg fun q => hlt ⟨by
   have : k ≠ i := fun e => by rw [e, hb] at q; cases q.2
   omega, q.2⟩]
theorem fill_end {n b m : Nat} {o : Nat -> Nat} : rowF n (fillF b m n o) = rowF n fun i => if bitB b i = true then m ||| b else o i := by
 refine rowF_congr fun k hk => ?_
 unfold fillF
 by_cases hb : bitB b k = true
 ·rw [if_pos ⟨hk, hb⟩, if_pos hb]
 ·rw [if_neg fun q => hb q.2, if_neg hb]
theorem bitB_iff {b i : Nat} : ((((b >>> i) &&& 1 : Nat) : Int) = 1) ↔ bitB b i = true := by
 unfold bitB
 rw [decide_eq_true_eq]
 omega
set_option maxHeartbeats 4000000 in
theorem snapshots_p (n : Nat) (bl : List Nat) (hn : n <= 60) (hb : ∀ b ∈ bl, b < 1048576) : Fn Tryz.prog 75 [dI (n : Int), dS ZCE (ZAA bl)] (dS ZCE (rowF n (ZA0 bl 0 fun _ => 0))) := by
 (refine ZE Tryz.func75 rfl rfl ?_; simp only [Tryz.ntmps75, List.length_cons, List.length_nil, Nat.reduceAdd, Nat.reduceSub, List.replicate_succ, List.replicate_zero, List.cons_append, List.nil_append])
 (first | refine ZR (t := 1) rfl le_K fun hl1 => ?_ | refine ZR (t := 1) rfl le_A fun hl1 => ?_ | refine ZR (t := 1) rfl le_C fun hl1 => ?_); simp only [maxLen] at hl1
 rw [ZBs] at hl1
 (repeat' (first | (apply WL.opN; exact yF; dsimp only [ZB, z0, z1]) | refine WL.nil ?_ | refine ZA fun Kx hK => ?_ | (refine hK _ _ ?_; clear hK) | refine WC.region ?_ |  (refine WL.makeI elI (OpD.t rfl) (OpD.t rfl) rfl (by omega) (by omega) fun v => ?_; dsimp only [ZB, z0, z1]) | (apply WL.opN; (focus ((first | (apply SY.len; (exact oD); (exact nD); (exact uD)) | fail); all_goals infer_instance)); dsimp only [ZB, z0, z1]) | refine WC.block ?_))
 rw [ZBs, <- rowF_zero]
 (refine WC.loopU (X := Nat × Nat × (Nat -> Nat)) (fun x => [(14, dI (x.1 : Int)), (6, dI (x.2.1 : Int)), (8, dA), (9, dA), (15, dA), (16, dA), (17, dA), (18, dA), (19, dA), (20, dA), (21, dA), (22, dA), (23, dA), (24, dA), (25, dA), (26, dA), (27, dA), (28, dA), (29, dA), (30, dA), (31, dA), (32, dA), (33, dA), (34, dA), (35, dA)]) (fun x => [ZU v 3 RI (rowF n x.2.2)]) (fun x => bl.length - x.1) (fun x => x.1 <= bl.length /\ x.2.1 < 1048576 /\ ZA0 (bl.drop x.1) x.2.1 x.2.2 = ZA0 bl 0 (fun _ => 0)) (0, 0, fun _ => 0) ?start ?frame0 ?objs0 ?round)
 case start => exact ⟨Nat.zero_le _, by decide, rfl⟩
 case frame0 => ((try dsimp only [ZL, z0, z1]); repeat (first | exact LeF.nil | refine ZD (k := ?_)))
 case objs0 => rfl
 case round =>
  rintro ⟨j, m, o⟩ ⟨h1, h2, h3⟩
  simp only at h1 h2 h3
  dsimp only [ZL, z0, z1]
  by_cases hj : j < bl.length
  ·have hbj : bl[j] < 1048576 := hb _ (List.getElem_mem hj)
   have hor : m ||| bl[j] < 1048576 := Nat.or_lt_two_pow (n := 20) h2 hbj
   have hdr : bl.drop j = bl[j] :: bl.drop (j + 1) := List.drop_eq_getElem_cons hj
   rw [hdr] at h3
   (repeat' (first | (apply WL.opN; exact yF; dsimp only [ZB, z0, z1]) | refine WL.nil ?_ | refine ZA fun Kx hK => ?_ | (refine hK _ _ ?_; clear hK) | refine WC.region ?_ | (apply WL.opN; (focus ((first | (refine SY.orN (a := m) (b := bl[j]) (by omega) (by omega) (OpD.t rfl) (OpD.t rfl)) | (refine SY.ixB elI (OpD.t rfl) (OpD.t rfl) hj) | ((first | apply SY.move | apply SY.assign | apply SY.lss | apply SY.eql | apply SY.and | apply SY.or) <;> (exact oD)) | fail); all_goals infer_instance)); dsimp only [ZB, z0, z1]) | (apply ZC; (exact oD); all_goals (intro h; try exact xD)) | refine WC.skip ?_ | refine WC.block ?_))
   all_goals try (exfalso; first | contradiction | omega)
   have hz : o = fillF bl[j] m 0 o := (fill_zero bl[j] m o).symm
   rw [hz]
   (refine WC.loopU (X := Nat) (fun i => [(22, dI (i : Int)), (9, dA), (23, dA), (24, dA), (25, dA), (26, dA), (27, dA), (28, dA), (29, dA), (30, dA), (31, dA), (32, dA), (33, dA), (34, dA)]) (fun i => [ZU v 3 RI (rowF n (fillF bl[j] m i o))]) (fun i => n - i) (fun i => i <= n) 0 ?start ?frame0 ?objs0 ?round)
   case start => exact Nat.zero_le _
   case frame0 => ((try dsimp only [ZL, z0, z1]); repeat (first | exact LeF.nil | refine ZD (k := ?_)))
   case objs0 => rfl
   case round =>
    rintro i q1
    dsimp only [ZL, z0, z1]
    by_cases hi : i < n
    ·cases hbit : bitB bl[j] i with
     | true =>
      have hcond := bitB_iff.2 hbit
      ((repeat' (first | (apply WL.opN; exact yF; dsimp only [ZB, z0, z1]) | refine WL.nil ?_ | refine ZA fun Kx hK => ?_ | (refine hK _ _ ?_; clear hK) | refine WC.region ?_ |  (apply WL.storeR; exact tyI; exact OpD.t rfl; exact OpD.t rfl; exact ZBt; (rw [rowF_len]; exact hi); dsimp only [ZB, z0, z1]) | (apply WL.opN; (focus ((first | (refine SY.shrN (a := bl[j]) (b := i) (by omega) (OpD.t rfl) (OpD.t rfl)) | (refine SY.bit1 (m := bl[j]) (i := i) (by omega) (OpD.t rfl)) | (apply SY.ixR; exact elI; exact OpD.t rfl; exact .head _; exact OpD.t rfl; rfl; (rw [rowF_len]; exact hi)) | ((first | apply SY.move | apply SY.assign | apply SY.lss | apply SY.eql | apply SY.and | apply SY.or) <;> (exact oD)) | ((first | apply SY.add) <;> first | exact oD | omega) | fail); all_goals infer_instance)); dsimp only [ZB, z0, z1]) | (apply ZC; (exact oD); all_goals (intro h; try exact xD)) | refine WC.skip ?_ | refine WC.block ?_ | refine ThenD.n ?_)); all_goals (first | ((repeat clear hK); (repeat clear Kx))))
      all_goals try (exfalso; first | contradiction | omega)
      rw [fill_set hbit]
      (refine ⟨i + 1, ?_, by first | omega | (simp only; omega), rfl, ?_⟩; rotate_left; ((try dsimp only [ZL, z0, z1]); repeat (first | exact LeF.nil | refine ZD (k := ?_))); (try dsimp only))
      omega
     | false =>
      have hcond : ¬ ((((bl[j] >>> i) &&& 1 : Nat) : Int) = 1) := fun q => by rw [bitB_iff.1 q] at hbit; cases hbit
      ((repeat' (first | (apply WL.opN; exact yF; dsimp only [ZB, z0, z1]) | refine WL.nil ?_ | refine ZA fun Kx hK => ?_ | (refine hK _ _ ?_; clear hK) | refine WC.region ?_ | (apply WL.opN; (focus ((first | (refine SY.shrN (a := bl[j]) (b := i) (by omega) (OpD.t rfl) (OpD.t rfl)) | (refine SY.bit1 (m := bl[j]) (i := i) (by omega) (OpD.t rfl)) | ((first | apply SY.move | apply SY.assign | apply SY.lss | apply SY.eql | apply SY.and | apply SY.or) <;> (exact oD)) | ((first | apply SY.add) <;> first | exact oD | omega) | fail); all_goals infer_instance)); dsimp only [ZB, z0, z1]) | (apply ZC; (exact oD); all_goals (intro h; try exact xD)) | refine WC.skip ?_ | refine WC.block ?_ | refine ThenD.n ?_)); all_goals (first | ((repeat clear hK); (repeat clear Kx))))
      all_goals try (exfalso; first | contradiction | omega)
      rw [fill_skip hbit]
      (refine ⟨i + 1, ?_, by first | omega | (simp only; omega), rfl, ?_⟩; rotate_left; ((try dsimp only [ZL, z0, z1]); repeat (first | exact LeF.nil | refine ZD (k := ?_))); (try dsimp only))
      omega
    ·have hin : i = n := by omega
     subst hin
     ((repeat' (first | (apply WL.opN; exact yF; dsimp only [ZB, z0, z1]) | refine WL.nil ?_ | refine ZA fun Kx hK => ?_ | (refine hK _ _ ?_; clear hK) | (refine Kont.skip ?_; clear hK) | refine WC.region ?_ | (apply WL.opN; (focus ((first | ((first | apply SY.move | apply SY.assign | apply SY.lss | apply SY.eql | apply SY.and | apply SY.or) <;> (exact oD)) | ((first | apply SY.add) <;> first | exact oD | omega) | fail); all_goals infer_instance)); dsimp only [ZB, z0, z1]) | (apply ZC; (exact oD); all_goals (intro h; try exact xD)) | refine WC.exit ?_ | refine ThenD.n ?_)); all_goals (first | ((repeat clear hK); (repeat clear Kx))))
     all_goals try (exfalso; first | contradiction | omega)
     rw [fill_end]
     (refine ⟨(j + 1, m ||| bl[j], fun i => if bitB bl[j] i = true then m ||| bl[j] else o i), ?_, by first | omega | (simp only; omega), rfl, ?_⟩; rotate_left; ((try dsimp only [ZL, z0, z1]); repeat (first | exact LeF.nil | refine ZD (k := ?_))); (try dsimp only))
     exact ⟨by omega, hor, h3⟩
  ·have hjl : j = bl.length := by omega
   have ho : o = ZA0 bl 0 fun _ => 0 := by rw [<- h3, hjl, List.drop_length]; rfl
   rw [ho]
   ((repeat' (first | (apply WL.opN; exact yF; dsimp only [ZB, z0, z1]) | refine WL.nil ?_ | refine ZA fun Kx hK => ?_ | (refine hK _ _ ?_; clear hK) | (refine Kont.skip ?_; clear hK) | refine WC.region ?_ | (apply WL.opN; (focus ((first | ((first | apply SY.move | apply SY.assign | apply SY.lss | apply SY.eql | apply SY.and | apply SY.or) <;> (exact oD)) | fail); all_goals infer_instance)); dsimp only [ZB, z0, z1]) | (apply ZC; (exact oD); all_goals (intro h; try exact xD)) | refine WC.ret ?_ | refine WC.exit ?_)); all_goals (first | ((repeat clear hK); (repeat clear Kx))))
   all_goals try (exfalso; first | contradiction | omega)
   (refine ⟨trivial, _, rfl, ?_⟩; exact fD)
theorem zip_snoc {s : List Vx} {k : Nat} (h : k < s.length) : (s.take (k + 1)).zipIdx = (s.take k).zipIdx ++ [(s[k], k)] := by
 rw [List.take_succ_eq_append_getElem h, List.zipIdx_append]
 simp [Nat.min_eq_left (Nat.le_of_lt h)]
theorem atB_snoc {s : List Vx} {m k : Nat} (h : k < s.length) : atB (s.take (k + 1)) m = atB (s.take k) m ++ if bitB m k = true then [s[k]] else [] := by
 unfold atB
 rw [zip_snoc h, List.filter_append, List.map_append]
 congr 1
 show List.map (·.1) (List.filter (fun p : Vx × Nat => bitB m p.2) [(s[k], k)]) = _
 cases hb : bitB m k with
 | true => rw [List.filter_cons_of_pos (by simpa using hb)]; rfl
 | false => rw [List.filter_cons_of_neg (by simp [hb])]; rfl
theorem atB_len (s : List Vx) (m : Nat) : (atB s m).length <= s.length := by
 unfold atB
 rw [List.length_map]
 exact Nat.le_trans (List.length_filter_le _ _) (by simp)
set_option maxHeartbeats 4000000 in
theorem faceM_p (s : List Vx) (m : Nat) (hs : s.length <= 60) (hm : m < 1048576) : Fn Tryz.prog 39 [dS ZF s, dI (m : Int)] (dS ZF (atB s m)) := by
 (refine ZE Tryz.func39 rfl rfl ?_; simp only [Tryz.ntmps39, List.length_cons, List.length_nil, Nat.reduceAdd, Nat.reduceSub, List.replicate_succ, List.replicate_zero, List.cons_append, List.nil_append])
 (repeat' (first | (apply WL.opN; exact yF; dsimp only [ZB, z0, z1]) | refine WL.nil ?_ | refine ZA fun Kx hK => ?_ | (refine hK _ _ ?_; clear hK) | refine WC.region ?_ | (apply WL.opN; (focus ((first | (apply SY.len; (exact oD); (exact nD); (exact uD)) | fail); all_goals infer_instance)); dsimp only [ZB, z0, z1]) | refine WC.block ?_))
 refine ZBh 45 2 (by decide) RV ?_
 (refine WC.loopU (X := Nat × Value) (fun x => [(5, dX x.2), (10, dI (x.1 : Int)), (6, dA), (7, dA), (11, dA), (12, dA), (13, dA), (14, dA), (15, dA), (16, dA), (17, dA), (18, dA), (19, dA), (20, dA), (21, dA), (22, dA), (23, dA), (24, dA)]) (fun x => [ZS x.2 45 2 RV (atB (s.take x.1) m)]) (fun x => s.length - x.1) (fun x => x.1 <= s.length) (0, .slice none 0 0) ?start ?frame0 ?objs0 ?round)
 case start => simp
 case frame0 => ((try dsimp only [ZL, z0, z1]); repeat (first | exact LeF.nil | refine ZD (k := ?_)))
 case objs0 => rfl
 case round =>
  rintro ⟨k, u⟩ h1
  dsimp only [ZL, z0, z1]
  simp only at h1
  have h2 : (atB (s.take k) m).length <= 1000 := by
   have := atB_len (s.take k) m
   rw [List.length_take] at this
   omega
  by_cases hk : k < s.length
  ·cases hb : bitB m k with
   | true =>
    have hcond := bitB_iff.2 hb
    ((repeat' (first | (apply WL.opN; exact yF; dsimp only [ZB, z0, z1]) | refine WL.nil ?_ | refine ZA fun Kx hK => ?_ | (refine hK _ _ ?_; clear hK) | refine WC.region ?_ | ((first | apply WL.pushK | apply WL.push1); (exact eD); exact OpD.t rfl; (exact oD); (intro _; exact hD); (exact (by simp)); (exact (by simp)); (first | exact ⟨by decide, by decide⟩ | skip); decide; (exact lD); (intro _; dsimp only [ZB, z0, z1]); all_goals (try infer_instance)) | (apply WL.alloc; (first | exact tzV | exact tzC); (first | exact ZW rfl | exact Zs | exact Zi rfl); (intro _; dsimp only [ZB, z0, z1])) | (apply WL.storeF; (exact tD); rfl; (exact oD); (exact hD); dsimp only [ZB, z0, z1]) | (apply WL.opN; (focus ((first | (refine SY.shrN (a := m) (b := k) (by omega) (OpD.t rfl) (OpD.t rfl)) | (refine SY.bit1 (m := m) (i := k) (by omega) (OpD.t rfl)) | ((first | apply SY.move | apply SY.assign | apply SY.lss | apply SY.eql | apply SY.and) <;> (exact oD)) | ((first | apply SY.add) <;> first | exact oD | omega) | (apply ZA3; (exact eD); (exact oD); (exact oD); exact kD) | fail); all_goals infer_instance)); dsimp only [ZB, z0, z1]) | (apply ZC; (exact oD); all_goals (intro h; try exact xD)) | refine WC.skip ?_ | refine WC.block ?_ | refine ThenD.n ?_)); all_goals (first | ((repeat clear hK); (repeat clear Kx))))
    all_goals try (exfalso; first | contradiction | omega)
    (refine ⟨(k + 1, _) , ?_, by first | omega | (simp only; omega), by ((try simp only);  (rw [atB_snoc hk, if_pos hb])), ?_⟩; rotate_left; ((try dsimp only [ZL, z0, z1]); repeat (first | exact LeF.nil | refine ZD (k := ?_))); (try dsimp only))
    omega
   | false =>
    have hcond : ¬ ((((m >>> k) &&& 1 : Nat) : Int) = 1) := fun q => by rw [bitB_iff.1 q] at hb; cases hb
    ((repeat' (first | (apply WL.opN; exact yF; dsimp only [ZB, z0, z1]) | refine WL.nil ?_ | refine ZA fun Kx hK => ?_ | (refine hK _ _ ?_; clear hK) | refine WC.region ?_ | (apply WL.alloc; (first | exact tzV | exact tzC); (first | exact ZW rfl | exact Zs | exact Zi rfl); (intro _; dsimp only [ZB, z0, z1])) | (apply WL.storeF; (exact tD); rfl; (exact oD); (exact hD); dsimp only [ZB, z0, z1]) | (apply WL.opN; (focus ((first | (refine SY.shrN (a := m) (b := k) (by omega) (OpD.t rfl) (OpD.t rfl)) | (refine SY.bit1 (m := m) (i := k) (by omega) (OpD.t rfl)) | ((first | apply SY.move | apply SY.assign | apply SY.lss | apply SY.eql | apply SY.and) <;> (exact oD)) | ((first | apply SY.add) <;> first | exact oD | omega) | (apply ZA3; (exact eD); (exact oD); (exact oD); exact kD) | fail); all_goals infer_instance)); dsimp only [ZB, z0, z1]) | (apply ZC; (exact oD); all_goals (intro h; try exact xD)) | refine WC.skip ?_ | refine WC.block ?_ | refine ThenD.n ?_)); all_goals (first | ((repeat clear hK); (repeat clear Kx))))
    all_goals try (exfalso; first | contradiction | omega)
    (refine ⟨(k + 1, _) , ?_, by first | omega | (simp only; omega), by ((try simp only);  (rw [atB_snoc hk, if_neg (by simp [hb]), List.append_nil])), ?_⟩; rotate_left; ((try dsimp only [ZL, z0, z1]); repeat (first | exact LeF.nil | refine ZD (k := ?_))); (try dsimp only))
    omega
  ·((repeat' (first | (apply WL.opN; exact yF; dsimp only [ZB, z0, z1]) | refine WL.nil ?_ | refine ZA fun Kx hK => ?_ | (refine hK _ _ ?_; clear hK) | (refine Kont.skip ?_; clear hK) | refine WC.region ?_ | (apply WL.opN; (focus ((first | ((first | apply SY.move | apply SY.assign | apply SY.lss | apply SY.eql | apply SY.and) <;> (exact oD)) | fail); all_goals infer_instance)); dsimp only [ZB, z0, z1]) | (apply ZC; (exact oD); all_goals (intro h; try exact xD)) | refine WC.ret ?_ | refine WC.exit ?_)); all_goals (first | ((repeat clear hK); (repeat clear Kx))))
   all_goals try (exfalso; first | contradiction | omega)
   (refine ⟨trivial, _, rfl, ?_⟩; refine ZCI (.head _) ?_)
   rw [List.take_of_length_le (by omega)]
abbrev dLab (p : Nat -> Prop) (L : Nat -> Int) : Dat := dFun Tryz.prog (fun m : {m : Nat // p m} => [dI ((m.1 : Nat) : Int)]) (fun m => dI (L m.1))
def Zh (L : Nat -> Int) (s : List Vx) (bl : List Nat) : List Vx := s.zipIdx.map fun q => (q.1.1, L (ZA0 bl 0 (fun _ => 0) q.2))
theorem ZAp (L : Nat -> Int) (s : List Vx) (bl : List Nat) : (Zh L s bl).length = s.length := by simp [Zh]
theorem ZCM {L : Nat -> Int} {s : List Vx} {bl : List Nat} {k : Nat} (h : k < (Zh L s bl).length) (h' : k < s.length) : (Zh L s bl)[k] = (s[k].1, L (ZA0 bl 0 (fun _ => 0) k)) := by simp [Zh]
theorem SY.ixF {P : Program} {ops : Array Oper} {hp : List HObj} {fr : List Dat} {dst : Option Tmp} {ty : TypeId} {ps : String} {af : Array Edge} {g : Option (Nat × Bool)} {x i : Operand} {t e : TypeId} {z : Value} {bytes : Nat} (E : ElT P t e 1 z bytes false) {n k : Nat} {f : Nat -> Nat} (hx : OpD fr x (dS ZCE (rowF n f))) (hi : OpD fr i (dI (k : Int))) (hk : k < n) : SY P ops hp { dst := dst, op := .indexAddr t x i, type := ty, pos := ps, after := af, guard := g } fr (dP 1 false (dI ((f k : Nat) : Int))) := by
 have h := SY.ix (R := RI) (_gR := inferInstance) (P := P) (ops := ops) (hp := hp) (dst := dst) (ty := ty) (ps := ps) (af := af) (g := g) E hx hi (by rw [rowF_len]; exact hk)
 rwa [rowF_get] at h
set_option maxHeartbeats 4000000 in
theorem facet_p (p : Nat -> Prop) (L : Nat -> Int) (s : List Vx) (bl : List Nat) (hs : s.length <= 60) (hb : ∀ b ∈ bl, b < 1048576) (hp : ∀ i, i < s.length -> p (ZA0 bl 0 (fun _ => 0) i)) : Fn Tryz.prog 69 [dS ZF s, dS ZCE (ZAA bl), dLab p L] (dS ZF (Zh L s bl)) := by
 (refine ZE Tryz.func69 rfl rfl ?_; simp only [Tryz.ntmps69, List.length_cons, List.length_nil, Nat.reduceAdd, Nat.reduceSub, List.replicate_succ, List.replicate_zero, List.cons_append, List.nil_append])
 (repeat' (first | ((first | apply WL.opN | apply WD.opN); exact yF; dsimp only [ZB, z0, z1]) | refine WL.nil ?_ | refine ZA fun Kx hK => ?_ | (refine hK _ _ ?_; clear hK) | refine WC.region ?_ | ((first | apply WL.opN | apply WD.opN); (focus ((first | (apply SY.call (snapshots_p s.length bl hs hb) Tryz.call75; (exact aD)) | (apply SY.len; (exact oD); (exact nD); (exact uD)) | fail); all_goals infer_instance)); dsimp only [ZB, z0, z1]) | refine WC.block ?_))
 refine ZBh 45 2 (by decide) RV ?_
 rw [rowF_len]
 (refine WC.loopU (X := Nat × Value) (fun x => [(7, dX x.2), (15, dI (x.1 : Int)), (8, dA), (9, dA), (16, dA), (17, dA), (18, dA), (19, dA), (20, dA), (21, dA), (22, dA), (23, dA), (24, dA), (25, dA), (26, dA), (27, dA), (28, dA), (29, dA), (30, dA), (31, dA), (32, dA)]) (fun x => [ZS x.2 45 2 RV ((Zh L s bl).take x.1)]) (fun x => s.length - x.1) (fun x => x.1 <= s.length) (0, .slice none 0 0) ?start ?frame0 ?objs0 ?round)
 case start => simp
 case frame0 => ((try dsimp only [ZL, z0, z1]); repeat (first | exact LeF.nil | refine ZD (k := ?_)))
 case objs0 => rfl
 case round =>
  rintro ⟨k, u⟩ h1
  dsimp only [ZL, z0, z1]
  simp only at h1
  have h2 : ((Zh L s bl).take k).length <= 1000 := by rw [List.length_take]; omega
  by_cases hk : k < s.length
  ·have hkl : k < (Zh L s bl).length := by rw [ZAp]; exact hk
   ((repeat' (first |  (apply WC.drawTail 11; kernel_rfl; kernel_rfl; simp only [List.take_succ_cons, List.take_zero, List.drop_succ_cons, List.drop_zero]) | ((first | apply WL.opN | apply WD.opN); exact yF; dsimp only [ZB, z0, z1]) | refine WL.nil ?_ | refine WD.nil ?_ | refine ZA fun Kx hK => ?_ | (refine hK _ _ ?_; clear hK) | refine WC.region ?_ | ((first | apply WL.appK | apply WL.app1); (exact eD); exact OpD.t rfl; (exact oD); decide; (exact lD); (intro _; dsimp only [ZB, z0, z1]); all_goals (try infer_instance)) | ((first | apply WL.opN | apply WD.opN); (focus ((first | (refine SY.ixF elI (OpD.t rfl) (OpD.t rfl) hk) | (apply ZCX (x := (⟨ZA0 bl 0 (fun _ => 0) k, hp k hk⟩ : {m : Nat // p m})); (exact OpD.t rfl); (exact aD)) | ((first | apply SY.move | apply SY.assign | apply SY.lss) <;> (exact oD)) | ((first | apply SY.add) <;> first | exact oD | omega) | (apply ZA3; (exact eD); (exact oD); (exact oD); exact kD) | (first | (apply SY.fld0 vxT <;> (exact oD)) | (apply SY.fld1 vxT <;> (exact oD)) | (apply SY.mkV0 vxT <;> (exact oD)) | (apply SY.mkV1 vxT <;> (exact oD)) | (apply SY.mkV vxT <;> (exact oD))) | (apply SY.buildE; (exact eD); ((try simp only [List.map_cons, List.map_nil]); (repeat (first | exact ZAj | (apply ZAU; (first | exact OpD.t rfl | exact OpD.i | exact OpD.b | exact OpD.tle rfl (by first | exact ZN | exact ZK (by decide)) | exact ⟨ZN⟩ | exact ⟨ZK (by decide)⟩))))); rfl; rfl; decide; (intro _; exact ZA8); (exact (by simp))) | fail); all_goals infer_instance)); dsimp only [ZB, z0, z1]) | (apply ZC; (exact oD); all_goals (intro h; try exact xD)) | refine WC.skip ?_ | refine WC.block ?_ | refine ThenD.n ?_)); all_goals (first | ((repeat clear hK); (repeat clear Kx))))
   all_goals try (exfalso; first | contradiction | omega)
   (refine ⟨(k + 1, _) , ?_, by first | omega | (simp only; omega), by ((try simp only);  (rw [List.take_succ_eq_append_getElem hkl, ZCM hkl hk])), ?_⟩; rotate_left; ((try dsimp only [ZL, z0, z1]); repeat (first | exact LeF.nil | refine ZD (k := ?_))); (try dsimp only))
   omega
  ·((repeat' (first | ((first | apply WL.opN | apply WD.opN); exact yF; dsimp only [ZB, z0, z1]) | refine WL.nil ?_ | refine ZA fun Kx hK => ?_ | (refine hK _ _ ?_; clear hK) | (refine Kont.skip ?_; clear hK) | refine WC.region ?_ | ((first | apply WL.opN | apply WD.opN); (focus ((first | ((first | apply SY.move | apply SY.assign | apply SY.lss) <;> (exact oD)) | fail); all_goals infer_instance)); dsimp only [ZB, z0, z1]) | (apply ZC; (exact oD); all_goals (intro h; try exact xD)) | refine WC.ret ?_ | refine WC.exit ?_)); all_goals (first | ((repeat clear hK); (repeat clear Kx))))
   all_goals try (exfalso; first | contradiction | omega)
   (refine ⟨trivial, _, rfl, ?_⟩; refine ZCI (.head _) ?_)
   rw [List.take_of_length_le (by rw [ZAp]; omega)]
end
end Go.Proofs.YtmcllakdbgnfiaaGreatDoor
