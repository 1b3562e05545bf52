/- Part 17: walks by contracts, and plain laws. -/
import Derived.Test.YtjmignmnlpamjaaGreatVa16
set_option linter.unusedVariables false
set_option linter.unusedSimpArgs false
set_option linter.unusedSectionVars false
set_option maxRecDepth 100000
set_option maxHeartbeats 4000000
namespace Go.Proofs.YtjmignmnlpamjaaGreat.S43
section
section
variable {V : Nat} {s : SS} {W : Int -> List Nat} {E : Nat -> Prop}
theorem resolve_step (h : Inv V s W E) {p : Nat} {t : LS} {x : Int} (hx : s.trail[p]? = some x) (r : RInv s (p + 1) t) (h1 : 1 ≤ t.opn) :
  (t.seen x.natAbs = false /\ RInv s p t /\ resolve s (p + 1) t = resolve s p t) \/
  (t.seen x.natAbs = true /\ t.opn = 1 /\ resolve s (p + 1) t = -x :: t.out) \/
  (t.seen x.natAbs = true /\ t.opn ≠ 1 /\ ∃ rr c, s.rea x.natAbs = some rr /\ s.list[rr]? = some c /\ (∀ y ∈ c, y ≠ x -> -y ∈ s.trail.take p) /\ RInv s p { seen := t.seen, out := t.out, opn := t.opn - 1 } /\
   RInv s p ((c.filter fun y => decide (y ≠ x)).foldl (look s) { seen := t.seen, out := t.out, opn := t.opn - 1 }) /\ 1 ≤ ((c.filter fun y => decide (y ≠ x)).foldl (look s) { seen := t.seen, out := t.out, opn := t.opn - 1 }).opn /\
   resolve s (p + 1) t = resolve s p ((c.filter fun y => decide (y ≠ x)).foldl (look s) { seen := t.seen, out := t.out, opn := t.opn - 1 })) := by
 have hxd : s.trail.getD p 0 = x := by rw [List.getD_eq_getElem?_getD, hx, Option.getD_some]
 have hu : resolve s (p + 1) t = if t.seen (s.trail.getD p 0).natAbs = false then resolve s p t
   else if t.opn = 1 then -(s.trail.getD p 0) :: t.out
   else resolve s p (((s.list.getD ((s.rea (s.trail.getD p 0).natAbs).getD 0) []).filter fun x => decide (x ≠ s.trail.getD p 0)).foldl (look s) { seen := t.seen, out := t.out, opn := t.opn - 1 }) := rfl
 rw [hxd] at hu
 have hp := (List.getElem?_eq_some_iff.1 hx).1
 have htk : s.trail.take (p + 1) = s.trail.take p ++ [x] := by
  obtain ⟨g1, g2⟩ := List.getElem?_eq_some_iff.1 hx
  rw [List.take_succ_eq_append_getElem g1, g2]
 have hc : cnt s (p + 1) t.seen = cnt s p t.seen + (if (decide (s.lev x.natAbs = s.begins.length) && t.seen x.natAbs) = true then 1 else 0) := by
  unfold cnt
  rw [htk, List.filter_append, List.length_append]
  congr 1
  rw [List.filter_cons]
  split <;> rfl
 have hxm : x ∈ s.trail := List.mem_of_getElem? hx
 by_cases hs : t.seen x.natAbs = false
 ·rw [if_pos hs] at hu
  rw [hs, Bool.and_false, if_neg (by decide)] at hc
  exact .inl ⟨hs, ⟨r.out, r.dis, by rw [r.opn, hc]; rfl, r.low⟩, hu⟩
 ·rw [if_neg hs] at hu
  have hs' : t.seen x.natAbs = true := by
   cases hq : t.seen x.natAbs
   ·exact absurd hq hs
   ·rfl
  -- the literal is of the last level
  have hlx : s.lev x.natAbs = s.begins.length := by
   by_cases hq : s.lev x.natAbs = s.begins.length
   ·exact hq
   ·rw [decide_eq_false hq, Bool.false_and, if_neg (by decide)] at hc
    have h2 : 0 < cnt s p t.seen := by have := r.opn; omega
    unfold cnt at h2
    obtain ⟨z, hz⟩ := List.exists_mem_of_length_pos h2
    obtain ⟨z1, z2⟩ := List.mem_filter.1 hz
    obtain ⟨q, q1, q2⟩ := Z2.1 z1
    have g1 := h.lev q z q2
    have g2 := h.lev p x hx
    have g3 := ZBe (bs := s.begins) (Nat.le_of_lt q1)
    have g4 := of_decide_eq_true (Bool.and_eq_true_iff.1 z2).1
    have g5 := h.lev_le hxm
    omega
  rw [hs', decide_eq_true hlx, if_pos (by decide)] at hc
  by_cases ho : t.opn = 1
  ·rw [if_pos ho] at hu
   exact .inr (.inl ⟨hs', ho, hu⟩)
  ·rw [if_neg ho] at hu
   cases hr : s.rea x.natAbs with
   | none =>
    exfalso
    have hpb := h.dec p x hx hr
    have h2 : 0 < cnt s p t.seen := by have := r.opn; omega
    unfold cnt at h2
    obtain ⟨z, hz⟩ := List.exists_mem_of_length_pos h2
    obtain ⟨z1, z2⟩ := List.mem_filter.1 hz
    obtain ⟨q, q1, q2⟩ := Z2.1 z1
    have g1 := h.lev q z q2
    have g2 := h.lev p x hx
    have g4 := of_decide_eq_true (Bool.and_eq_true_iff.1 z2).1
    -- the level begins at p: it does not count before
    have g5 : lvp s.begins q < lvp s.begins p := by
     have : ∀ bs : List Nat, p ∈ bs -> lvp bs q < lvp bs p := by
      intro bs
      induction bs with
      | nil => intro q; cases q
      | cons b bs ih =>
       intro hb
       have e1 : lvp (b :: bs) q = lvp [b] q + lvp bs q := ZBA [b] bs q
       have e2 : lvp (b :: bs) p = lvp [b] p + lvp bs p := ZBA [b] bs p
       have m1 := ZBe (bs := [b]) (Nat.le_of_lt q1)
       have m2 := ZBe (bs := bs) (Nat.le_of_lt q1)
       rcases List.mem_cons.1 hb with q3 | q3
       ·subst q3
        have e3 : lvp [p] q = 0 := ZDW fun b hb => by rw [List.mem_singleton.1 hb]; exact q1
        have e4 : lvp [p] p = 1 := ZCj fun b hb => by rw [List.mem_singleton.1 hb]; exact Nat.le_refl _
        omega
       ·have := ih q3
        omega
     exact this _ hpb
    omega
   | some rr =>
    obtain ⟨c, c1, c2, c3⟩ := h.rea p x hx rr hr
    have hg : s.list.getD ((some rr).getD 0) [] = c := by
     rw [Option.getD_some, List.getD_eq_getElem?_getD, c1, Option.getD_some]
    rw [hr, hg] at hu
    have r0 : RInv s p { seen := t.seen, out := t.out, opn := t.opn - 1 } := ⟨r.out, r.dis, by
     show t.opn - 1 = cnt s p t.seen
     rw [r.opn, hc]
     omega, r.low⟩
    obtain ⟨b1, b2, b3, b4, b5⟩ := looks_ok h (c.filter fun y => decide (y ≠ x)) _ r0 fun y hy => by
     obtain ⟨y1, y2⟩ := List.mem_filter.1 hy
     exact c3 y y1 (of_decide_eq_true y2)
    exact .inr (.inr ⟨hs', ho, rr, c, rfl, c1, c3, r0, b1, Nat.le_trans (by show 1 ≤ t.opn - 1; omega) b2, hu⟩)
theorem RInv.pos {p : Nat} {t : LS} (r : RInv s p t) (h1 : 1 ≤ t.opn) : 0 < p := by
 rcases Nat.eq_zero_or_pos p with rfl | h
 ·have := r.opn
  unfold cnt at this
  simp at this
  omega
 ·exact h
abbrev lk0 : LS := { seen := fun _ => false, out := [], opn := 0 }
abbrev lk1 (t : LS) : LS := { seen := t.seen, out := t.out, opn := t.opn - 1 }
theorem lk0_inv (p : Nat) : RInv s p lk0 := ⟨(fun y hy => by cases hy), List.Pairwise.nil, (by
 unfold cnt
 rw [List.filter_eq_nil_iff.2 fun x _ => by simp]
 rfl), fun v hv => by cases hv⟩
theorem look_take {c : Cl} {t : LS} {i : Nat} (h : i < c.length) : (c.take (i + 1)).foldl (look s) t = look s ((c.take i).foldl (look s) t) c[i] := by
 rw [List.take_succ_eq_append_getElem h, List.foldl_append]; rfl
theorem learn_start {k : Nat} (h : CInv V s k) (hb : s.begins ≠ []) : ∃ (W : Int -> List Nat) (E : Nat -> Prop) (c : Cl), Inv V s W E /\ s.list[k]? = some c /\ (∀ y ∈ c, -y ∈ s.trail) /\ RInv s s.trail.length (c.foldl (look s) { seen := fun _ => false, out := [], opn := 0 }) /\ 1 ≤ (c.foldl (look s) { seen := fun _ => false, out := [], opn := 0 }).opn := by
 obtain ⟨E, w, c, hI, h0, hat, hbb, hc, hwc, hf⟩ := h.ex
 have hL : 0 < s.begins.length := List.length_pos_iff.2 hb
 have hlen : s.trail.take s.trail.length = s.trail := List.take_length ..
 have r0 : RInv s s.trail.length { seen := fun _ => false, out := [], opn := 0 } := ⟨(fun y hy => by cases hy), List.Pairwise.nil, (by
  unfold cnt
  rw [List.filter_eq_nil_iff.2 fun x _ => by simp]
  rfl), fun v hv => by cases hv⟩
 obtain ⟨b1, b2, b3, b4, b5⟩ := looks_ok hI c _ r0 fun y hy => by rw [hlen]; exact hf y hy
 have hwl : s.lev w.natAbs = s.begins.length := by
  have := hI.lev _ _ hat
  rw [Int.natAbs_neg] at this
  rw [this, ZCj fun b hb => by have := hbb b hb; omega]
 have hop : 1 ≤ (c.foldl (look s) { seen := fun _ => false, out := [], opn := 0 }).opn := by
  rw [b1.opn]
  unfold cnt
  rw [hlen]
  refine List.length_pos_of_mem (a := -w) (List.mem_filter.2 ⟨List.mem_of_getElem? hat, ?_⟩)
  rw [Int.natAbs_neg, decide_eq_true hwl, Bool.true_and]
  rcases b5 w hwc with q | q
  ·omega
  ·exact q
 exact ⟨_, E, c, hI, hc, hf, b1, hop⟩
end
end
end Go.Proofs.YtjmignmnlpamjaaGreat.S43
namespace Go.Proofs.YtjmignmnlpamjaaGreat
section
open Go.RowKit
open S43 (SS LS up ZAx ZMO)
def ZDq (seen : Nat -> Bool) : (Int -> Option Bool) -> Prop := fun g => ∀ v : Nat, (g (v : Int)).getD false = seen v
theorem ZGA {seen : Nat -> Bool} {v : Nat} : ∀ f, ZDq seen f -> ZDq (up seen v true) (upF f (v : Int) (some true)) := fun f h y => by
 unfold upF up
 by_cases e : y = v
 ·rw [if_pos (by rw [e]), if_pos e]; rfl
 ·rw [if_neg (by omega), if_neg e]; exact h y
theorem ZBc {ops : Array Oper} {hp : List HObj} {fr : List Dat} {dst : Option Tmp} {ty : TypeId} {ps : String} {af : Array Edge} {g : Option (Nat × Bool)} {b : Nat} {x y : Operand} {seen : Nat -> Bool} {l : Nat} {u : Bool} (hu : seen l = u) (hx : OpD fr x (dX (.map (some b)))) (hm : hG b kvI ZAF vvB (ZDq seen) ∈ hp) (hy : OpD fr y (dI (l : Int))) (ho : ZAF (l : Int)) :
  SY Tryz.prog ops hp ⟨dst, .lookup 101 x y false, ty, ps, af, g⟩ fr (dB u) :=
 ZCr ZCk ZAP hx hm hy isI ho fun I w f hf => by
  have := hf l
  rw [hu] at this
  cases h : f (l : Int) <;> rw [h] at this <;> simp at this <;> rw [<- this] <;> rfl
abbrev ZDE (b : Nat) : Value := .pointer (some ⟨b, 0, none⟩)
abbrev lkO (X : Lay) (V : Nat) (s : SS) (v2 : Value) (b6 b7 b8 bm : Nat) (vo : Value) (t : LS) : List HObj :=
 [ZHN X v2, oS X V s, oL X s, oB X s, ZAB b7 101 1 false (dX (.map (some bm))), ZAB b8 tI 1 false (dI (t.opn : Int)), ZAB b6 25 1 false (dX vo), ZS vo tI RI t.out, hG bm kvI ZAF vvB (ZDq t.seen)]
set_option maxHeartbeats 8000000 in
theorem ZMf (X : Lay) (V : Nat) (s : SS) (v2 : Value) (b6 b7 b8 bm : Nat) (vo : Value) (t : LS) (x : Int) (hx : x.natAbs ≤ 1000000) (ho : t.out.length ≤ 1000000) (hn : t.opn ≤ 1000000) :
  CallC Tryz.prog 102 ([dI x] ++ [ZDE b7, v2, ZDE b8, ZDE b6].map dX) (lkO X V s v2 b6 b7 b8 bm vo t) (fun _ hp2 => ∃ vo', hp2 = lkO X V s v2 b6 b7 b8 bm vo' (S43.look s t x)) := by
 (refine ZA9 Tryz.func102 rfl rfl (fun hp => ?_); simp only [Tryz.ntmps102, List.length_cons, List.length_nil, List.length_append, List.length_map, Nat.reduceAdd, Nat.reduceSub, List.replicate_succ, List.replicate_zero, List.cons_append, List.nil_append, List.map_cons, List.map_nil, List.append_assoc])
 have hv := ZAa x hx
 have h6 : ZAF ((x.natAbs : Nat) : Int) := by unfold ZAF; omega
 have hbl : (ZAj s.begins).length = s.begins.length := ZAW _
 have hcast : (t.opn : Int) + 1 = ((t.opn + 1 : Nat) : Int) := by omega
 have h8 : (t.out.length + 1) * 8 ≤ 140737488355328 := by omega
 cases hs : t.seen x.natAbs with
 | true =>
  have e : S43.look s t x = t := by unfold S43.look; rw [hs]; rfl
  rw [e]
  ((repeat' (first | ((first | apply WL.opN | apply WD.opN); exact yF; dsimp only [ZB, z0, z1]) | refine WL.nil ?_ | refine ZA fun Kx hK => ?_ | (refine hK _ _ ?_; clear hK) | refine WC.region ?_ | ((first | apply ZJ | apply WD.op); (focus (first | exact wN | (apply SYG.yes; (exact wY); ((first | (apply SY.call (hv) Tryz.call100; (exact aD)) | (apply Z1 tyF; exact OpD.t rfl; exact mAt 4 rfl) | (exact ZBc hs (OpD.t rfl) (mAt 8 rfl) (OpD.t rfl) h6) | (apply Z7; (exact oD); (with_reducible rfl); (exact oD)) | fail); all_goals infer_instance)))); dsimp only [ZB, z0, z1]) | (apply Zj; (exact oD); (with_reducible rfl)) | refine WC.ret ?_ | refine ThenD.r ?_)); all_goals (first | ((repeat clear hK); (repeat clear Kx))))
  all_goals try (exfalso; first | contradiction | omega)
  exact ⟨trivial, lkO X V s v2 b6 b7 b8 bm vo t, rfl, vo, rfl⟩
 | false =>
  (repeat' (first | ((first | apply WL.opN | apply WD.opN); exact yF; dsimp only [ZB, z0, z1]) | refine WL.nil ?_ | refine WD.nil ?_ | refine ZA fun Kx hK => ?_ | (refine hK _ _ ?_; clear hK) | refine WC.region ?_ | (apply WC.draw; kernel_rfl; kernel_rfl) |  (refine ZK (SW.at 8 rfl fun q => ZA6 (ZDq (up t.seen x.natAbs true)) ZCk ZAP (OpD.t rfl) (OpD.t rfl) isI OpD.b isB h6 ZGA) fun _ => ?_; dsimp only [ZB, z0, z1]) |  (refine ZK (SW.at 5 rfl fun q => ZAD tyI (OpD.t rfl) (OpD.t rfl) Zf) fun _ => ?_; dsimp only [ZB, z0, z1]) |  (refine ZK (SW.at 7 rfl fun q => SW.app1 elI (OpD.t rfl) (OpD.t rfl) (by decide) h8) fun vo' => ?_; refine ZBM (mAt 7 rfl) fun hvv => ?_; dsimp only [ZB, z0, z1]) |  (refine ZK (SW.at 6 rfl fun q => ZAD ZAl (OpD.t rfl) (OpD.t rfl) (Z8 hvv)) fun _ => ?_; dsimp only [ZB, z0, z1]) | ((first | apply ZJ | apply WD.op); (focus (first | exact wN | (apply SYG.yes; (exact wY); ((first | (apply SY.call (hv) Tryz.call100; (exact aD)) | (apply Z1 tyF; exact OpD.t rfl; exact mAt 4 rfl) | (exact Zv tyC (OpD.t rfl) (mAt 0 rfl)) | (exact ZH (OpD.t rfl)) | (refine ZM ZAz (OpD.t rfl) (by decide)) | (apply ZI; (first | exact ZBi | exact ZAl); exact OpD.t rfl; exact mAt 1 rfl; rfl) | (exact ZBc hs (OpD.t rfl) (mAt 8 rfl) (OpD.t rfl) h6) | (exact ZDh (OpD.t rfl) (mAt 2 rfl) (OpD.t rfl) h6) | (exact ZAu hbl (OpD.t rfl) (mAt 3 rfl) elI.unt) | (apply Z1 tyI; exact OpD.t rfl; exact mAt 5 rfl) | (apply Z1 ZAl; exact OpD.t rfl; exact mAt 6 rfl) | (exact hcast ▸ SY.add (OpD.t rfl) Zl (by omega)) | ((first | apply SY.move | apply SY.assign | apply SY.eql) <;> (exact oD)) | (apply SY.build1'; (exact eD); ((try simp only [List.map_cons, List.map_nil]); (repeat (first | exact Zy | (apply Zt; (first | exact OpD.t rfl | exact Zl | exact OpD.b | exact OpD.tle rfl (by first | exact ZD | exact ZE (by decide)) | exact ⟨ZD⟩ | exact ⟨ZE (by decide)⟩))))); rfl; rfl; (intro _; first | exact ZAY | exact Zf | exact ZAA | exact ZAJ); (exact (by simp))) | (apply Zp; (exact oD); (with_reducible rfl); (exact oD)) | fail); all_goals infer_instance)))); dsimp only [ZB, z0, z1]) | (apply ZC; (exact oD); all_goals (intro h; try exact xD)) | refine WC.skip ?_ | refine WC.ret ?_ | refine ThenD.r ?_))
  all_goals try (exfalso; first | contradiction | omega)
  ·rename_i hz
   have e : S43.look s t x = t := by unfold S43.look; rw [hs, if_pos (by simp; omega)]
   rw [e]
   exact ⟨trivial, lkO X V s v2 b6 b7 b8 bm vo t, rfl, vo, rfl⟩
  ·rename_i hz _
   have e : S43.look s t x = { seen := up t.seen x.natAbs true, out := t.out, opn := t.opn + 1 } := by
    unfold S43.look
    rw [hs, if_neg (by simp; omega), if_pos (by omega)]
   rw [e]
   exact ⟨trivial, lkO X V s v2 b6 b7 b8 bm vo { seen := up t.seen x.natAbs true, out := t.out, opn := t.opn + 1 }, rfl, vo, rfl⟩
  ·rename_i hz _
   have e : S43.look s t x = { seen := up t.seen x.natAbs true, out := t.out ++ [x], opn := t.opn } := by
    unfold S43.look
    rw [hs, if_neg (by simp; omega), if_neg (by omega)]
   rw [e]
   exact ⟨trivial, lkO X V s v2 b6 b7 b8 bm vo' { seen := up t.seen x.natAbs true, out := t.out ++ [x], opn := t.opn }, rfl, vo', rfl⟩
end
section
open Go.RowKit
section
variable {P : Program} {ops : Array Oper} {hp : List HObj} {o : Oper} {fr : List Dat} {d : Dat} {Q : ZAb} {rest : List Oper}
variable {dst : Option Tmp} {ty : TypeId} {ps : String} {af : Array Edge} {g : Option (Nat × Bool)} {e e' t T : TypeId} {bytes b cap N : Nat} {z : Value} {ag : Bool} {α : Type} {R : Rel α} {_gR : Good R} {xs : List α} {v : Value}
abbrev hQ (b N cap : Nat) (e : TypeId) (R : Rel α) [Good R] (xs : List α) : HObj := ZS (.slice (some ⟨b, 0, none⟩) N cap) e R xs
theorem ZLQ {c : Code} {v : Value} (hne : 0 < xs.length) (h : ∀ b cap, v = .slice (some ⟨b, 0, none⟩) xs.length cap -> xs.length ≤ cap -> cap ≤ maxLen -> WC P Q c fr (ZS v e R xs :: hp)) : WC P Q c fr (ZS v e R xs :: hp) := WC.of fun P0 B w0 w a hh hf => by
 obtain ⟨us, h1, ⟨h2, h3⟩, h4⟩ := hh.ok (ZS v e R xs) (by simp)
 rcases h3 with ⟨_, hz⟩ | ⟨g, cap, cur, hv, hB, hg, hc1, hc2, hc3, hc4⟩
 ·omega
 ·exact (h g cap hv hc1 hc2).on hh hf
theorem ZJj {x i : Operand} {n m off k : Nat} {j : Int} (E : ElT P t e 1 z bytes ag) (hx : OpD fr x (dX (.slice (some ⟨b, off, none⟩) n m))) (hi : OpD fr i (dI j)) (hj : j = (k : Int)) (hk : k < n) :
  SY P ops hp ⟨dst, .indexAddr t x i, ty, ps, af, g⟩ fr (dX (.pointer (some ⟨b, off + k, none⟩))) := SY.val fun {I w a} ho => by
 have h1 : a.eval x = _ := hx.get (by simp [Op.operands]) ho
 have h2 : a.eval i = _ := hi.get (by simp [Op.operands]) ho
 refine ⟨.pointer (some ⟨b, off + k * 1, none⟩), ?_, by rw [Nat.mul_one]; rfl⟩
 unfold execOp
 simp only [h1, h2, hj, Sem.run_bind, ZAp (w := w) E b off n m k .i64 hk, Result.andThen_ok, Sem.run_pure]
theorem ZH5 {x : Operand} {j k : Nat} (T' : TyI P T 1 false) (hx : OpD fr x (dX (.pointer (some ⟨b, j, none⟩)))) (hm : hQ b N cap e' R xs ∈ hp) (hj : j = k) (hk : k < xs.length) :
  SY P ops hp ⟨dst, .load T x, ty, ps, af, g⟩ fr (dS R xs[k]) := by
 subst hj
 exact ZAd T' hx hm hk
theorem ZJs {p : Tmp} {x : Operand} {j k : Nat} {y : α} (T' : TyI P T 1 false) (hp0 : OpD fr (.tmp p) (dX (.pointer (some ⟨b, j, none⟩)))) (hx : OpD fr x (dS R y)) (hs : (dS R y).Shape 1 false) (hj : j = k) (hk : k < xs.length)
  (h : WL P ops Q rest (ZB fr dst dA) (hQ b N cap e R (xs.set k y) :: hp)) : WL P ops Q (⟨dst, .store T (.tmp p) x, ty, ps, af, none⟩ :: rest) fr (hQ b N cap e R xs :: hp) := by
 subst hj
 exact WL.storeR T' hp0 hx hs hk h
theorem SY.fromQ {x y : Operand} {off n m l : Nat} {j : Int} (E : ElT P t e 1 z bytes ag) (hx : OpD fr x (dX (.slice (some ⟨b, off, none⟩) n m))) (hy : OpD fr y (dI j)) (hj : j = (l : Int)) (hl : l < n) (hm : n ≤ m) :
  SY P ops hp ⟨dst, .slice t x (some y) none none, ty, ps, af, g⟩ fr (dX (.slice (some ⟨b, off + l, none⟩) (n - l) (m - l))) := SY.val fun {I w a} ho => by
 have h1 : a.eval x = _ := hx.get (by simp [Op.operands]) ho
 have h2 : a.eval y = _ := hy.get (by simp [Op.operands]) ho
 refine ⟨_, ?_, rfl⟩
 have hr := ZBn (w := w) (ad := some ⟨b, off, none⟩) (len := n) (cap := m) (lo := some (.int .i64 (l : Int))) (hi := none) (l := l) (h := n) E (.inr ⟨_, rfl⟩) (.inl ⟨rfl, rfl⟩) (by omega) hm
 rw [if_neg (by omega)] at hr
 unfold execOp
 simp only [h1, h2, hj, Option.map_none, Option.map_some, Sem.run_bind, hr, Result.andThen_ok, Sem.run_pure]
 simp [Addr.add_lit]
theorem SY.uptoQ {x y : Operand} {off n m l : Nat} {j : Int} (E : ElT P t e 1 z bytes ag) (hx : OpD fr x (dX (.slice (some ⟨b, off, none⟩) n m))) (hy : OpD fr y (dI j)) (hj : j = (l : Int)) (hl : l ≤ n) (hm : n ≤ m) (h0 : 0 < m) :
  SY P ops hp ⟨dst, .slice t x none (some y) none, ty, ps, af, g⟩ fr (dX (.slice (some ⟨b, off, none⟩) l m)) := SY.val fun {I w a} ho => by
 have h1 : a.eval x = _ := hx.get (by simp [Op.operands]) ho
 have h2 : a.eval y = _ := hy.get (by simp [Op.operands]) ho
 refine ⟨_, ?_, rfl⟩
 have hr := ZBn (w := w) (ad := some ⟨b, off, none⟩) (len := n) (cap := m) (lo := none) (hi := some (.int .i64 (l : Int))) (l := 0) (h := l) E (.inl ⟨rfl, rfl⟩) (.inr ⟨_, rfl⟩) (by omega) (by omega)
 rw [if_neg (by omega)] at hr
 unfold execOp
 simp only [h1, h2, hj, Option.map_none, Option.map_some, Sem.run_bind, hr, Result.andThen_ok, Sem.run_pure]
 simp [Addr.add_lit]
theorem ZM0 {k : Nat} (hk : k ≤ xs.length) (h : WL P ops Q rest fr (hQ b k cap e R (xs.take k) :: hp)) : WL P ops Q rest fr (hQ b N cap e R xs :: hp) := WL.of fun P0 B w0 w a hh hf => by
 obtain ⟨us, h1, ⟨h2, h3⟩, h4⟩ := (hQ b N cap e R xs).bound (hh.ok (hQ b N cap e R xs) (by simp))
 have hgr : w.grownBy w (hQ b N cap e R xs).blk := ⟨rfl, rfl, rfl, Nat.le_refl _, fun _ _ _ => rfl⟩
 have hok : (hQ b k cap e R (xs.take k)).ok (fun j => Imm P0 B (hQ b N cap e R xs :: hp) j /\ j < w.heap.size) w := by
  rcases h3 with ⟨hc, _⟩ | ⟨g, cap', cur, hv, hB, hg, hc1, hc2, hc3, hc4⟩
  ·cases hc
  ·cases hv
   refine ⟨us.take k, by simp [h1], ⟨by simp; omega, .inr ⟨_, _, cur, ?_, hB, hg, by simp; omega, hc2, hc3, ?_⟩⟩, fun i a1 a2 => ?_⟩
   ·simp [Nat.min_eq_left hk]
   ·rw [List.length_take, Nat.min_eq_left hk, Nat.mul_one]
    rw [Nat.mul_one] at hc4
    rw [<- hc4, List.take_take, Nat.min_eq_left hk]
   ·rw [List.getElem_take, List.getElem_take]
    rw [List.length_take] at a1 a2
    exact h4 i (by omega) (by omega)
 exact h.on (hh.write hgr (.inl rfl) hok) (hf.mono fun _ _ hd => Z9 (o' := hQ b k cap e R (xs.take k)) hgr (.inl rfl) hd)
theorem ZJu {l : Nat} {x y : Operand} {j : Int} (E : ElT P t e 1 z bytes ag) (hx : OpD fr x (dX (.slice (some ⟨b, 0, none⟩) N cap))) (hy : OpD fr y (dI j)) (hj : j = (l : Int)) (hl : l ≤ N) (hm : N ≤ cap) (h0 : 0 < cap) (hk : l ≤ xs.length)
  (h : WL P ops Q rest (ZB fr dst (dX (.slice (some ⟨b, 0, none⟩) l cap))) (hQ b l cap e R (xs.take l) :: hp)) : WL P ops Q (⟨dst, .slice t x none (some y) none, ty, ps, af, none⟩ :: rest) fr (hQ b N cap e R xs :: hp) :=
 WL.op rfl (SY.uptoQ E hx hy hj hl hm h0) (ZM0 hk h)
theorem ZJq {x : Operand} {off n m k : Nat} {x0 : α} (hu : P.underlying t = some (.slice e)) (hz : ∀ w, (zeroValue e).run P w = .ok z w) (hz1 : z.oneCell' = true) (hz0 : ∀ I w, R I w z x0) (hx : OpD fr x (dX (.slice (some ⟨b, off, none⟩) n m))) (hj : off = k) (hn : 0 < n) (hk : k + n = xs.length)
  (h : WL P ops Q rest (ZB fr dst dA) (hQ b N cap e R (xs.take k ++ List.replicate n x0) :: hp)) : WL P ops Q (⟨dst, .call { callee := .builtin .clear, args := #[x], argTypes := #[t] }, ty, ps, af, none⟩ :: rest) fr (hQ b N cap e R xs :: hp) := by
 refine WL.of fun P0 B w0 w a hh hf => ?_
 subst hj
 have hok := (hQ b N cap e R xs).bound (hh.ok (hQ b N cap e R xs) (by simp))
 obtain ⟨us, h1, ⟨h2, h3⟩, h4⟩ := hok
 rcases h3 with ⟨hc, _⟩ | ⟨g, cap', cur, hv, hB, hg, hc1, hc2, hc3, hc4⟩
 ·cases hc
 cases hv
 rw [Nat.mul_one] at hc3 hc4
 have hval : a.eval x = _ := hx.ev hf
 have hcl : off + n ≤ cur.toList.length := by simp; omega
 have hzc : (Builtin.zeroCells #[z] n).toList = List.replicate n z := by
  simp only [Builtin.zeroCells]
  apply List.ext_getElem
  ·simp
  ·intro i h1 h2
   simp [Nat.mod_one]
 have hcell : ∀ j < n, w.cell? ⟨b, off + j, none⟩ ≠ none /\ w.frozen? ⟨b, off + j, none⟩ = false := fun j hj => by
  have : off + j < cur.size := by omega
  exact ⟨by simp [World.cell?, hg, this], by simp [World.frozen?, hg]⟩
 have hst := run_storeCells_cells (P := P) b off (List.replicate n z) 0 w (fun j hj => by
   rw [List.length_replicate] at hj
   rw [Nat.add_zero]
   exact Option.isSome_iff_ne_none.2 (hcell j hj).1) (fun j hj => by
   rw [List.length_replicate] at hj
   rw [Nat.add_zero]
   exact (hcell j hj).2) (fun c hc => by rw [(List.mem_replicate.1 hc).2]; exact hz1)
 have hrun : (execOp a.eval ⟨dst, .call { callee := .builtin .clear, args := #[x], argTypes := #[t] }, ty, ps, af, none⟩).run P w = .ok (.value (.tuple #[])) (w.setCells b off (List.replicate n z)) := by
  obtain ⟨m', rfl⟩ : ∃ m, n = m + 1 := ⟨n - 1, by omega⟩
  unfold execOp
  simp [resolve, invoke, builtin, hval, Builtin.clear_, run_underlying hu, hz, ZCC hz1, hzc, hst]
 have hsplit : cur = (cur.toList.take off ++ (cur.toList.drop off).take n ++ cur.toList.drop (off + n)).toArray := by
  apply Array.ext'
  simp [<- List.drop_drop]
 have hg2 : (w.setCells b off (List.replicate n z)).heap[b]? = some (.cells (cur.toList.take off ++ List.replicate n z ++ cur.toList.drop (off + n)).toArray e (0, 0)) := by
  have := ZCF (g := b) (e := e) (fz := (0, 0)) (List.replicate n z) ((cur.toList.drop off).take n) (cur.toList.take off) (cur.toList.drop (off + n)) w (by simp; omega) (by rw [<- hsplit]; exact hg)
  rwa [List.length_take, Nat.min_eq_left (by omega)] at this
 have hgr : w.grownBy (w.setCells b off (List.replicate n z)) (some b) := ZKx
 have hok' : (hQ b xs.length cap e R (xs.take off ++ List.replicate n x0)).ok (fun j => Imm P0 B (hQ b xs.length cap e R xs :: hp) j /\ j < w.heap.size) (w.setCells b off (List.replicate n z)) := by
  have hlen : (xs.take off ++ List.replicate n x0).length = xs.length := by simp; omega
  have hlu : (us.take off ++ List.replicate n z).length = xs.length := by simp; omega
  refine ⟨us.take off ++ List.replicate n z, by rw [hlen, hlu], ⟨by rw [hlu, hlen, Nat.mul_one], .inr ⟨_, _, _, by rw [hlen], hB, hg2, by rw [hlen]; exact hc1, hc2, ?_, ?_⟩⟩, fun i a1 a2 => ?_⟩
  ·simp; omega
  ·rw [hlen, Nat.mul_one]
   rw [List.take_append_of_le_length (by simp; omega), List.take_of_length_le (by simp; omega), <- hc4, List.take_take, Nat.min_eq_left (by omega)]
  ·by_cases hi : i < off
   ·rw [List.getElem_append_left (by simp; omega), List.getElem_append_left (by simp; omega), List.getElem_take, List.getElem_take]
    have := h4 i (by omega) (by omega)
    exact ⟨this.1, Good.grown this.2 hgr fun r hr hc => hc.2 (by cases hr; rfl)⟩
   ·rw [List.getElem_append_right (by simp; omega), List.getElem_append_right (by simp; omega), List.getElem_replicate, List.getElem_replicate]
    exact ⟨hz1, hz0 _ _⟩
 refine wpList_plain rfl fun K hK => ?_
 unfold Oper.wp
 rw [hrun]
 exact hK _ _ (h.on (hh.write hgr (.inl rfl) hok') (Fr.put (hf.mono fun _ _ hd => Z9 (o := hQ b xs.length cap e R xs) (o' := hQ b xs.length cap e R (xs.take off ++ List.replicate n x0)) hgr (.inl rfl) hd) (d := dA) trivial))
end
end
section
open Go.RowKit

def ZC2 (x : Int) : Int := if x < 0 then wrap64 (-x) else x
def ZA8 (vars l : Int) : Bool := decide (l ≠ 0 /\ -vars ≤ l /\ l ≤ vars)
def ZCS : List Int -> Int -> Bool
 | [], _ => false
 | x :: l, n => if x = n then true else ZCS l n
def ZR (vars : Int) : Option Int -> List Int -> Int
 | _, [] => 0
 | none, x :: l => if ZA8 vars x = true then ZR vars (some x) l else 2
 | some p, x :: l => if ZA8 vars x = true then (if ZC2 x ≤ ZC2 p then 14 else ZR vars (some x) l) else 2
def ZBG (vars : Int) (n : Nat) : Int := if vars < 0 \/ 4096 < vars then 2 else if 32768 < n then 5 else 0
def ZAU (vars : Int) : List (List Int) -> Int
 | [] => 0
 | c :: l => if ZR vars none c ≠ 0 then ZR vars none c else ZAU vars l
def ZQ (vars : Int) (l : List (List Int)) : Int := if ZBG vars l.length ≠ 0 then ZBG vars l.length else ZAU vars l
def ZDu : List Int -> List Int -> Bool
 | [], [] => true
 | x :: a, y :: b => if x ≠ y then false else ZDu a b
 | _, _ => false
def ZA5 : List (List Int) -> List (List Int) -> Bool
 | [], [] => true
 | x :: a, y :: b => if ZDu x y = true then ZA5 a b else false
 | _, _ => false
def Zx : List Int -> List Int -> Bool
 | [], _ => false
 | x :: c, l => if ZCS l x = true then true else Zx c l
def ZN : List Int -> List Int -> List Int
 | [], _ => []
 | x :: c, l => if ZCS l (wrap64 (-x)) = true then ZN c l else x :: ZN c l
def ZAK : Nat -> List (List Int) -> List Int -> Option (Nat × List Int)
 | _, [], _ => none
 | i, c :: l, a => if Zx c a = true then ZAK (i + 1) l a else if (ZN c a).length < 2 then some (i, ZN c a) else ZAK (i + 1) l a

def ZCJ (zs : List Int) : Nat -> Option Int
 | 0 => none
 | k + 1 => zs[k]?
theorem ZC7 {vars : Int} {zs : List Int} {k : Nat} (h : k < zs.length) (hx : ¬ ZA8 vars zs[k] = true) : ZR vars (ZCJ zs k) (zs.drop k) = 2 := by
 rw [List.drop_eq_getElem_cons h]
 cases ZCJ zs k <;> simp [ZR, hx]
theorem ZCf {vars : Int} {zs : List Int} (h : 0 < zs.length) (hx : ZA8 vars zs[0] = true) : ZR vars (ZCJ zs 0) (zs.drop 0) = ZR vars (ZCJ zs 1) (zs.drop 1) := by
 rw [List.drop_eq_getElem_cons h, ZCJ, ZR, if_pos hx, ZCJ, List.getElem?_eq_getElem h]
theorem ZCe {vars : Int} {zs : List Int} {k : Nat} (h : k + 1 < zs.length) (hx : ZA8 vars zs[k + 1] = true) :
  ZR vars (ZCJ zs (k + 1)) (zs.drop (k + 1)) = if ZC2 zs[k + 1] ≤ ZC2 zs[k] then 14 else ZR vars (ZCJ zs (k + 1 + 1)) (zs.drop (k + 1 + 1)) := by
 have h1 : ZCJ zs (k + 1) = some zs[k] := List.getElem?_eq_getElem (by omega)
 have h2 : ZCJ zs (k + 1 + 1) = some zs[k + 1] := List.getElem?_eq_getElem h
 rw [List.drop_eq_getElem_cons h, h1, h2, ZR, if_pos hx]

theorem ZJK {a b : List Int} {k : Nat} (h : k < a.length) (h' : k < b.length) : ZDu (a.drop k) (b.drop k) = if a[k] ≠ b[k] then false else ZDu (a.drop (k + 1)) (b.drop (k + 1)) := by
 rw [List.drop_eq_getElem_cons h, List.drop_eq_getElem_cons h', ZDu]
theorem ZG5 : ∀ {a b : List Int}, a.length ≠ b.length -> ZDu a b = false
 | [], [], h => absurd rfl h
 | [], y :: b, _ => rfl
 | x :: a, [], _ => rfl
 | x :: a, y :: b, h => by
  simp only [ZDu]
  split
  ·rfl
  ·exact ZG5 (by simpa using h)
theorem ZGJ {a b : List (List Int)} {k : Nat} (h : k < a.length) (h' : k < b.length) : ZA5 (a.drop k) (b.drop k) = if ZDu a[k] b[k] = true then ZA5 (a.drop (k + 1)) (b.drop (k + 1)) else false := by
 rw [List.drop_eq_getElem_cons h, List.drop_eq_getElem_cons h', ZA5]
theorem ZEF : ∀ {a b : List (List Int)}, a.length ≠ b.length -> ZA5 a b = false
 | [], [], h => absurd rfl h
 | [], y :: b, _ => rfl
 | x :: a, [], _ => rfl
 | x :: a, y :: b, h => by
  simp only [ZA5]
  split
  ·exact ZEF (by simpa using h)
  ·rfl
theorem ZJP {c l : List Int} {k : Nat} (h : k < c.length) : Zx (c.drop k) l = if ZCS l c[k] = true then true else Zx (c.drop (k + 1)) l := by
 rw [List.drop_eq_getElem_cons h, Zx]
theorem ZDc {c l : List Int} {k : Nat} (h : k < c.length) : ZN (c.drop k) l = if ZCS l (wrap64 (-c[k])) = true then ZN (c.drop (k + 1)) l else c[k] :: ZN (c.drop (k + 1)) l := by
 rw [List.drop_eq_getElem_cons h, ZN]
theorem ZJO {l : List (List Int)} {a : List Int} {i k : Nat} (h : k < l.length) : ZAK i (l.drop k) a = if Zx l[k] a = true then ZAK (i + 1) (l.drop (k + 1)) a else if (ZN l[k] a).length < 2 then some (i, ZN l[k] a) else ZAK (i + 1) (l.drop (k + 1)) a := by
 rw [List.drop_eq_getElem_cons h, ZAK]
def ZBr : Option (Nat × List Int) -> Int
 | none => -1
 | some (i, _) => i
def ZET : Option (Nat × List Int) -> List Int
 | none => []
 | some (_, l) => l

end
section
open Go.RowKit

def ZI7 (c : List Int) : List Int := c.map fun x => wrap64 (-x)
def ZDC (c : List (List Int)) (a : List Int) : Nat := (c.flatten.filter fun x => !ZCS a x).length
def ZCn : Nat -> List (List Int) -> List Int -> List Int × Int
 | 0, c, a => (a, ZBr (ZAK 0 c a))
 | n + 1, c, a => match ZAK 0 c a with
  | some (_, [x]) => ZCn n c (a ++ [x])
  | r => (a, ZBr r)
def ZAg (c : List (List Int)) (a : List Int) : List Int × Int := ZCn (ZDC c a) c a
def ZAi (c : List (List Int)) (x : List Int) : Bool := decide (0 ≤ (ZAg c (ZI7 x)).2)
def ZMc : Nat -> List (List Int) -> List (List Int) -> Option Nat
 | _, _, [] => none
 | i, l, c :: p => if ZAi l c = true then ZMc (i + 1) (l ++ [c]) p else some i
def ZDm (p : List (List Int)) : Bool := match p.getLast? with
 | none => true
 | some c => decide (0 < c.length)
def gapI (l p : List (List Int)) : Int := match ZMc 0 l p with
 | some i => i
 | none => if ZDm p = true then p.length else -1
def ZGE (l p : List (List Int)) : Bool := decide (gapI l p < 0)
def Za (vars : Int) (l : List (List Int)) (c : List Int) : Bool × Int :=
 if ZQ vars l ≠ 0 then (false, ZQ vars l) else if ZR vars none c ≠ 0 then (false, ZR vars none c) else (ZAi l c, 0)
def ZCZ {α : Type} (l : List α) (i : Nat) : List α := l.take i ++ l.drop (i + 1)
def ZHm {α : Type} (ok : List α -> Bool) : Nat -> List α -> List α
 | 0, l => l
 | i + 1, l => ZHm ok i (if ok (ZCZ l i) = true then ZCZ l i else l)
def Ze (l : List (List Int)) (which : List Int) : List (List Int) := which.map fun i => l.getD i.toNat []
def upI (n : Nat) : List Int := (List.range n).map Int.ofNat
theorem ZHt {vars : Int} {n : Nat} (h : ZBG vars n = 0) : 0 ≤ vars /\ vars ≤ 4096 /\ n ≤ 32768 := by
 unfold ZBG at h
 by_cases h1 : vars < 0 \/ 4096 < vars
 ·rw [if_pos h1] at h; omega
 ·rw [if_neg h1] at h
  by_cases h2 : 32768 < n
  ·rw [if_pos h2] at h; omega
  ·omega
theorem Zc {vars : Int} {l : List (List Int)} (h : ZQ vars l = 0) : 0 ≤ vars /\ vars ≤ 4096 /\ l.length ≤ 32768 /\ ZAU vars l = 0 := by
 unfold ZQ at h
 by_cases h1 : ZBG vars l.length = 0
 ·rw [if_neg (by simp [h1])] at h
  have := ZHt h1
  exact ⟨this.1, this.2.1, this.2.2, h⟩
 ·rw [if_pos h1] at h; exact absurd h h1

theorem ZKi {c : List Int} {k : Nat} (h : k < c.length) : ZI7 (c.drop k) = wrap64 (-c[k]) :: ZI7 (c.drop (k + 1)) := by
 rw [List.drop_eq_getElem_cons h]; rfl
theorem ZA4 : ∀ {l : List Int} {n : Int}, ZCS l n = true ↔ n ∈ l
 | [], n => by simp [ZCS]
 | x :: l, n => by
  simp only [ZCS, List.mem_cons]
  by_cases h : x = n
  ·simp [h]
  ·simp only [if_neg h, ZA4]; constructor
   ·exact .inr
   ·rintro (rfl | h'); exact absurd rfl h; exact h'
theorem Zn : ∀ {c l : List Int}, Zx c l = true ↔ ∃ x ∈ c, x ∈ l
 | [], l => by simp [Zx]
 | x :: c, l => by
  simp only [Zx]
  by_cases h : ZCS l x = true
  ·simp only [h, if_true, true_iff]; exact ⟨x, by simp, ZA4.1 h⟩
  ·rw [if_neg h, Zn]
   simp only [List.mem_cons]
   constructor
   ·rintro ⟨y, hy, h'⟩; exact ⟨y, .inr hy, h'⟩
   ·rintro ⟨y, rfl | hy, h'⟩
    ·exact absurd (ZA4.2 h') h
    ·exact ⟨y, hy, h'⟩
theorem Z5 : ∀ {c l : List Int} {x : Int}, x ∈ ZN c l ↔ x ∈ c /\ wrap64 (-x) ∉ l
 | [], l, x => by simp [ZN]
 | y :: c, l, x => by
  simp only [ZN]
  by_cases h : ZCS l (wrap64 (-y)) = true
  ·simp only [h, if_true, Z5, List.mem_cons]
   constructor
   ·rintro ⟨a, b⟩; exact ⟨.inr a, b⟩
   ·rintro ⟨rfl | a, b⟩
    ·exact absurd (ZA4.1 h) b
    ·exact ⟨a, b⟩
  ·rw [if_neg h]
   simp only [List.mem_cons, Z5]
   have h' : wrap64 (-y) ∉ l := fun hc => h (ZA4.2 hc)
   constructor
   ·rintro (rfl | ⟨a, b⟩)
    ·exact ⟨.inl rfl, h'⟩
    ·exact ⟨.inr a, b⟩
   ·rintro ⟨rfl | a, b⟩
    ·exact .inl rfl
    ·exact .inr ⟨a, b⟩
theorem ZAh : ∀ {c : List (List Int)} {a : List Int} {k i : Nat} {o : List Int}, ZAK k c a = some (i, o) -> k ≤ i /\ i < k + c.length /\ ∃ x ∈ c, Zx x a = false /\ o = ZN x a /\ o.length < 2
 | [], a, k, i, o, h => by simp [ZAK] at h
 | x :: c, a, k, i, o, h => by
  simp only [ZAK] at h
  by_cases ht : Zx x a = true
  ·rw [if_pos ht] at h
   obtain ⟨h1, h2, y, hy, r⟩ := ZAh h
   exact ⟨by omega, by simp; omega, y, by simp [hy], r⟩
  ·rw [if_neg ht] at h
   by_cases hl : (ZN x a).length < 2
   ·rw [if_pos hl] at h
    simp only [Option.some.injEq, Prod.mk.injEq] at h
    obtain ⟨rfl, rfl⟩ := h
    exact ⟨Nat.le_refl _, by simp, x, by simp, by simpa using ht, rfl, hl⟩
   ·rw [if_neg hl] at h
    obtain ⟨h1, h2, y, hy, r⟩ := ZAh h
    exact ⟨by omega, by simp; omega, y, by simp [hy], r⟩
theorem ZCO : ∀ {c : List (List Int)} {a : List Int} {k : Nat}, ZAK k c a = none -> ∀ x ∈ c, Zx x a = true \/ 2 ≤ (ZN x a).length
 | [], a, k, h => by simp
 | x :: c, a, k, h => by
  simp only [ZAK] at h
  by_cases ht : Zx x a = true
  ·rw [if_pos ht] at h
   intro y hy
   rcases List.mem_cons.1 hy with rfl | hy
   ·exact .inl ht
   ·exact ZCO h y hy
  ·rw [if_neg ht] at h
   by_cases hl : (ZN x a).length < 2
   ·rw [if_pos hl] at h; cases h
   ·rw [if_neg hl] at h
    intro y hy
    rcases List.mem_cons.1 hy with rfl | hy
    ·exact .inr (by omega)
    ·exact ZCO h y hy

theorem ZBY {α : Type} {p q : α -> Bool} : ∀ {l : List α}, (∀ x, q x = true -> p x = true) -> ∀ {y : α}, y ∈ l -> p y = true -> q y = false -> (l.filter q).length < (l.filter p).length
 | [], _, y, hy, _, _ => by cases hy
 | x :: l, h, y, hy, h1, h2 => by
  have hle : (l.filter q).length ≤ (l.filter p).length := by
   clear hy h1 h2
   induction l with
   | nil => simp
   | cons z l ih =>
    simp only [List.filter_cons]
    by_cases hq : q z = true
    ·simp only [hq, h z hq, if_true, List.length_cons]; omega
    ·by_cases hp : p z = true
     ·simp only [hq, hp, if_true, Bool.false_eq_true, if_false, List.length_cons]; omega
     ·simp only [hq, hp, Bool.false_eq_true, if_false]; exact ih
  rcases List.mem_cons.1 hy with rfl | hy
  ·simp only [List.filter_cons, h1, h2, if_true, Bool.false_eq_true, if_false, List.length_cons]; omega
  ·have ih := ZBY h hy h1 h2
   simp only [List.filter_cons]
   by_cases hq : q x = true
   ·simp only [hq, h x hq, if_true, List.length_cons]; omega
   ·by_cases hp : p x = true
    ·simp only [hq, hp, if_true, Bool.false_eq_true, if_false, List.length_cons]; omega
    ·simp only [hq, hp, Bool.false_eq_true, if_false]; exact ih

theorem ZBF {c : List (List Int)} {a : List Int} {i : Nat} {x : Int} (h : ZAK 0 c a = some (i, [x])) : ZDC c (a ++ [x]) < ZDC c a := by
 obtain ⟨_, _, cl, hcl, ht, ho, _⟩ := ZAh h
 have hx : x ∈ ZN cl a := by rw [<- ho]; simp
 have hxc := (Z5.1 hx).1
 have hna : x ∉ a := fun hc => by
  have : Zx cl a = true := Zn.2 ⟨x, hxc, hc⟩
  rw [ht] at this; cases this
 refine ZBY (fun y hy => ?_) (y := x) (List.mem_flatten.2 ⟨cl, hcl, hxc⟩) ?_ ?_
 ·simp only [Bool.not_eq_true', <- Bool.not_eq_true, ZA4, List.mem_append] at hy ⊢
  exact fun hc => hy (.inl hc)
 ·simp only [Bool.not_eq_true', <- Bool.not_eq_true, ZA4]; exact hna
 ·simp only [Bool.not_eq_false', ZA4]; simp
theorem ZHF : ∀ {n m : Nat} {c : List (List Int)} {a : List Int}, ZDC c a ≤ n -> ZDC c a ≤ m -> ZCn n c a = ZCn m c a
 | 0, 0, c, a, _, _ => rfl
 | 0, m + 1, c, a, h, _ => by
  unfold ZCn
  split
  ·rename_i i x hs; have := ZBF hs; omega
  ·rfl
 | n + 1, 0, c, a, _, h => by
  unfold ZCn
  split
  ·rename_i i x hs; have := ZBF hs; omega
  ·rfl
 | n + 1, m + 1, c, a, h1, h2 => by
  unfold ZCn
  split
  ·rename_i i x hs; have := ZBF hs; exact ZHF (by omega) (by omega)
  ·rfl
theorem ZCU {c : List (List Int)} {a : List Int} {i : Nat} {x : Int} (h : ZAK 0 c a = some (i, [x])) : ZAg c a = ZAg c (a ++ [x]) := by
 have hl := ZBF h
 unfold ZAg
 have e1 : ZCn (ZDC c a) c a = ZCn (ZDC c a - 1 + 1) c a := by congr 1; omega
 rw [e1, ZCn, h]
 exact ZHF (by omega) (Nat.le_refl _)
theorem ZBj {c : List (List Int)} {a : List Int} (h : ∀ i x, ZAK 0 c a ≠ some (i, [x])) : ZAg c a = (a, ZBr (ZAK 0 c a)) := by
 unfold ZAg
 cases ZDC c a with
 | zero => rfl
 | succ n =>
  unfold ZCn
  split
  ·rename_i i x hs; exact absurd hs (h i x)
  ·rfl

end
end Go.Proofs.YtjmignmnlpamjaaGreat
