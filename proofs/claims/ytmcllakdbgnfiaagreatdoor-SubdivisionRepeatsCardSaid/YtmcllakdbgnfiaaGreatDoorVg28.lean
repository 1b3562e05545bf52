/- Part 28: walks by contracts, and plain laws. -/
import Derived.Test.YtmcllakdbgnfiaaGreatDoorVg27
set_option linter.unusedVariables false
set_option linter.unusedSimpArgs false
set_option linter.unusedSectionVars false
set_option maxRecDepth 100000
set_option maxHeartbeats 4000000
namespace Go.Proofs.YtmcllakdbgnfiaaGreatDoor
section
open Go.RowKit

def plC (l : Cx) (s : List Vx) : Int := if ZAn l ≠ 0 then ZAn l else Zn s
theorem place27_p (l : Cx) (s : List Vx) : Fn Tryz.prog 105 [dS Cpx l, dS ZF s] (dI (plC l s)) := by
 (refine ZE Tryz.func105 rfl rfl ?_; simp only [Tryz.ntmps105, List.length_cons, List.length_nil, Nat.reduceAdd, Nat.reduceSub, List.replicate_succ, List.replicate_zero, List.cons_append, List.nil_append])
 ((repeat' (first | (apply WL.opN; exact yF; dsimp only [ZB, z0, z1]) | refine WL.nil ?_ | refine ZA fun Kx hK => ?_ | (refine hK _ _ ?_; clear hK) | refine WC.region ?_ | (apply WL.opN; (focus ((first | (apply SY.call (check_p _) Tryz.call42; (exact aD)) | (apply SY.call (chk_p _) Tryz.call88; (exact aD)) | exact yNeq | exact yBox | fail); all_goals infer_instance)); dsimp only [ZB, z0, z1]) | (apply ZH; (exact oD); all_goals (intro h; try exact xD)) | refine WC.skip ?_ | refine WC.ret ?_ | refine ThenD.r ?_)); all_goals (first | ((repeat clear hK); (repeat clear Kx))))
 all_goals ((refine ⟨trivial, _, rfl, ?_⟩; refine FinD.i ?_) <;> ((unfold plC; (repeat' split)) <;> (first | rfl | (exfalso; first | contradiction | omega) | (simp_all; done))))
theorem plC_good {l : Cx} {s : List Vx} (h : plC l s = 0) : GoodX l /\ Zn s = 0 := by
 unfold plC at h
 by_cases h1 : ZAn l ≠ 0
 ·rw [if_pos h1] at h; exact absurd h h1
 ·rw [if_neg h1] at h; exact ⟨Zg.1 (by omega), h⟩
theorem GoodX.len {l : Cx} (h : GoodX l) : l.length <= 1000000 := Nat.le_trans h.1 (by decide)
theorem GoodX.short {l : Cx} (h : GoodX l) : ∀ s ∈ l, s.length <= 8 := fun s hs => len_chk (h.2.2.1 s hs)
theorem around_of {l : Cx} {s : List Vx} (h : plC l s = 0) : l.filter (ZBO s) = aroundC l s := around_eq (plC_good h).1.asc (ZM.1 (plC_good h).2).2.2.2
def contC (l : Cx) (s : List Vx) : Bool × Int := if plC l s ≠ 0 then (false, plC l s) else (hasC' l s, 0)
theorem contains27_p (l : Cx) (s : List Vx) : Fn Tryz.prog 60 [dS Cpx l, dS ZF s] (dT [dB (contC l s).1, dI (contC l s).2]) := by
 (refine ZAa Tryz.func60 rfl rfl ?_; simp only [Tryz.ntmps60, List.length_cons, List.length_nil, Nat.reduceAdd, Nat.reduceSub, List.replicate_succ, List.replicate_zero, List.cons_append, List.nil_append])
 by_cases h0 : plC l s = 0
 ·have e : contC l s = (hasC' l s, 0) := by unfold contC; rw [if_neg (by omega)]
  ((repeat' (first | (apply WL.opN; exact yF; dsimp only [ZB, z0, z1]) | refine WL.nil ?_ | refine ZA fun Kx hK => ?_ | (refine hK _ _ ?_; clear hK) | refine WC.region ?_ | (apply WL.opN; (focus ((first | (apply SY.call (place27_p _ _) Tryz.call105; (exact aD)) | (apply SY.call (around_p _ _ (plC_good h0).1.len) Tryz.call106; (exact aD)) | exact yGtr | exact yNeq | exact ZBV | exact yBox | fail); all_goals infer_instance)); dsimp only [ZB, z0, z1]) | (apply ZH; (exact oD); all_goals (intro h; try exact xD)) | refine WC.skip ?_ | refine WC.ret ?_)); all_goals (first | ((repeat clear hK); (repeat clear Kx))))
  rw [e, has_around, <- around_of h0]; (refine ⟨trivial, ⟨_, rfl, ?_⟩, _, rfl, ?_⟩ <;> (first | exact fD | refine FinD.b ?_))
  simp
 ·have e : contC l s = (false, plC l s) := by unfold contC; rw [if_pos h0]
  ((repeat' (first | (apply WL.opN; exact yF; dsimp only [ZB, z0, z1]) | refine WL.nil ?_ | refine ZA fun Kx hK => ?_ | (refine hK _ _ ?_; clear hK) | refine WC.region ?_ | (apply WL.opN; (focus ((first | (apply SY.call (place27_p _ _) Tryz.call105; (exact aD)) | exact yNeq | exact yBox | fail); all_goals infer_instance)); dsimp only [ZB, z0, z1]) | (apply ZH; (exact oD); all_goals (intro h; try exact xD)) | refine WC.ret ?_ | refine ThenD.r ?_)); all_goals (first | ((repeat clear hK); (repeat clear Kx))))
  rw [e]; (refine ⟨trivial, ⟨_, rfl, ?_⟩, _, rfl, ?_⟩ <;> exact fD)
def errC : Cx -> Int
 | [] => 0
 | s :: l => if Zn s ≠ 0 then Zn s else errC l
theorem errC_drop {l : Cx} {k : Nat} (h : k < l.length) : errC (l.drop k) = if Zn l[k] ≠ 0 then Zn l[k] else errC (l.drop (k + 1)) := by rw [ZAd h]; rfl
theorem errC_zero : ∀ {l : Cx}, errC l = 0 -> ∀ s ∈ l, Zn s = 0
 | [], _, s, hs => by cases hs
 | x :: l, h, s, hs => by
  unfold errC at h
  by_cases h1 : Zn x ≠ 0
  ·rw [if_pos h1] at h; exact absurd h h1
  ·rw [if_neg h1] at h
   rcases List.mem_cons.1 hs with rfl | hs
   ·omega
   ·exact errC_zero h s hs
def ofP (l : Cx) : Cx × Int := if 4096 < l.length then ([], 5) else if errC l ≠ 0 then ([], errC l) else (maxC l, 0)
theorem of27_p (l : Cx) : Fn Tryz.prog 52 [dS Zq l] (dT [dS Cpx (ofP l).1, dI (ofP l).2]) := by
 (refine ZBf tyC Tryz.func52 rfl rfl ?_; simp only [Tryz.ntmps52, List.length_cons, List.length_nil, Nat.reduceAdd, Nat.reduceSub, List.replicate_succ, List.replicate_zero, List.cons_append, List.nil_append])
 ((repeat' (first | (apply WL.opN; exact yF; dsimp only [ZB, z0, z1]) | refine WL.nil ?_ | refine ZA fun Kx hK => ?_ | (refine hK _ _ ?_; clear hK) | refine WC.region ?_ | (apply WL.alloc; (first | exact tzV | exact tzC); (first | exact ZW rfl | exact Zs | exact Zi rfl); (intro _; dsimp only [ZB, z0, z1])) | (apply WL.storeF; (exact tD); rfl; (exact oD); (exact hD); dsimp only [ZB, z0, z1]) | (apply WL.opN; (focus ((first | exact yGtr | exact ZBV | exact yBuild | fail); all_goals infer_instance)); dsimp only [ZB, z0, z1]) | (apply ZC; (exact oD); all_goals (intro h; try exact xD)) | refine WC.skip ?_ | refine WC.ret ?_ | refine WC.block ?_ | refine ThenD.r ?_)); all_goals (first | refine WC.id ?_ | ((repeat clear hK); (repeat clear Kx))))
 ·have e : ofP l = ([], 5) := by unfold ofP; rw [if_pos (by omega)]
  rw [e]; (refine ⟨trivial, ⟨_, rfl, ?_⟩, _, rfl, ?_⟩ <;> exact fD)
 ·rename Nat => b0
  (refine WC.loopU (X := Nat) (fun k => [(13, dI (k : Int)), (3, dA), (5, dA), (6, dA), (14, dA), (15, dA), (16, dA), (17, dA), (18, dA), (19, dA), (20, dA), (21, dA), (22, dA), (23, dA)]) (fun k => [ZO b0 24 1 true (dX (.agg #[.slice none 0 0]))]) (fun k => l.length - k) (fun k => k <= l.length /\ errC l = errC (l.drop k)) 0 ?start ?frame0 ?objs0 ?round)
  case start => exact ⟨Nat.zero_le _, rfl⟩
  case frame0 => ((try dsimp only [ZL, z0, z1]); repeat (first | exact LeF.nil | refine ZD (k := ?_)))
  case objs0 => rfl
  case round =>
   rintro k ⟨h1, h2⟩
   dsimp only [ZL, z0, z1]
   by_cases hz : errC l = 0
   ·have hg := errC_zero hz
    have hl : l.length <= 1000000 := by omega
    ((repeat' (first | (apply WL.opN; exact yF; dsimp only [ZB, z0, z1]) | refine WL.nil ?_ | refine ZA fun Kx hK => ?_ | (refine hK _ _ ?_; clear hK) | (refine Kont.skip ?_; clear hK) | refine WC.region ?_ | (apply WL.storeF; (exact tD); rfl; (exact oD); (exact hD); dsimp only [ZB, z0, z1]) | (apply WL.opN; (focus ((first | (apply SY.call (chk_p _) Tryz.call88; (exact aD)) | (apply SY.call (complexOf_p l hg hl) Tryz.call99; (exact aD)) | exact ZBu | exact yNeq | exact yAdd | exact ZT | exact yBuild | fail); all_goals infer_instance)); dsimp only [ZB, z0, z1]) | (apply ZC; (exact oD); all_goals (intro h; try exact xD)) | (apply ZH; (exact oD); all_goals (intro h; try exact xD)) | refine WC.skip ?_ | refine WC.ret ?_ | refine WC.exit ?_ | refine WC.block ?_ | refine ThenD.n ?_ | refine ThenD.r ?_ | refine InBlockD.r ?_)); all_goals (first | ((repeat clear hK); (repeat clear Kx))))
    ·exfalso
     have := hg _ (List.getElem_mem (show k < l.length by omega))
     omega
    ·(refine ⟨k + 1, ?_, by first | omega | (simp only; omega), rfl, ?_⟩; rotate_left; ((try dsimp only [ZL, z0, z1]); repeat (first | exact LeF.nil | refine ZD (k := ?_))); (try dsimp only))
     refine ⟨by omega, ?_⟩
     rw [h2, errC_drop (by omega), if_neg (by omega)]
    ·have e : ofP l = (maxC l, 0) := by unfold ofP; rw [if_neg (by omega), if_neg (by omega)]
     rw [e]; (refine ⟨trivial, ⟨_, rfl, ?_⟩, _, rfl, ?_⟩ <;> exact fD)
   ·have hk : k < l.length := by
     rcases Nat.lt_or_ge k l.length with h | h
     ·exact h
     ·rw [List.drop_of_length_le h] at h2; exact absurd h2 hz
    ((repeat' (first | (apply WL.opN; exact yF; dsimp only [ZB, z0, z1]) | refine WL.nil ?_ | refine ZA fun Kx hK => ?_ | (refine hK _ _ ?_; clear hK) | refine WC.region ?_ | (apply WL.storeF; (exact tD); rfl; (exact oD); (exact hD); dsimp only [ZB, z0, z1]) | (apply WL.opN; (focus ((first | (apply SY.call (chk_p _) Tryz.call88; (exact aD)) | exact ZBu | exact yNeq | exact yAdd | exact ZT | exact yBuild | fail); all_goals infer_instance)); dsimp only [ZB, z0, z1]) | (apply ZC; (exact oD); all_goals (intro h; try exact xD)) | (apply ZH; (exact oD); all_goals (intro h; try exact xD)) | refine WC.skip ?_ | refine WC.ret ?_ | refine WC.block ?_ | refine ThenD.n ?_ | refine ThenD.r ?_ | refine InBlockD.r ?_)); all_goals (first | ((repeat clear hK); (repeat clear Kx))))
    ·have e : ofP l = ([], errC l) := by unfold ofP; rw [if_neg (by omega), if_pos hz]
     rw [e, h2, errC_drop (by omega), if_pos h]; (refine ⟨trivial, ⟨_, rfl, ?_⟩, _, rfl, ?_⟩ <;> exact fD)
    ·(refine ⟨k + 1, ?_, by first | omega | (simp only; omega), rfl, ?_⟩; rotate_left; ((try dsimp only [ZL, z0, z1]); repeat (first | exact LeF.nil | refine ZD (k := ?_))); (try dsimp only))
     refine ⟨by omega, ?_⟩
     rw [h2, errC_drop (by omega), if_neg (by omega)]
end
section
theorem snap_small : ∀ n, n <= 5 -> ((ZBw (2 ^ n - 1)).all fun bl => (List.range n).all fun i => decide (ZB3 bl i 0 <= 31)) = true := by
 intro n h5
 have : n = 0 \/ n = 1 \/ n = 2 \/ n = 3 \/ n = 4 \/ n = 5 := by omega
 rcases this with rfl | rfl | rfl | rfl | rfl | rfl <;> decide +kernel
theorem ord_len : ∀ n, n <= 5 -> (ZBw (2 ^ n - 1)).length <= 541 := by
 intro n h5
 have : n = 0 \/ n = 1 \/ n = 2 \/ n = 3 \/ n = 4 \/ n = 5 := by omega
 rcases this with rfl | rfl | rfl | rfl | rfl | rfl <;> decide +kernel
theorem fac_chk {s : List Vx} (hs : Zn s = 0) (hd : Zy s = true) (h5 : s.length <= 5) : ∀ t ∈ ZCO s, Zn t = 0 := fun t ht => by
 unfold ZCO at ht
 obtain ⟨bl, hbl, rfl⟩ := List.mem_map.1 ht
 refine place_chk hs hd fun i hi => ?_
 have h1 := List.all_eq_true.1 (snap_small s.length h5) bl hbl
 have h2 := of_decide_eq_true (List.all_eq_true.1 h1 i (List.mem_range.2 hi))
 omega
theorem errC_ok : ∀ {l : Cx}, (∀ s ∈ l, Zn s = 0) -> errC l = 0
 | [], _ => rfl
 | s :: l, h => by
  unfold errC
  rw [if_neg (fun q => q (h s (List.mem_cons_self ..)))]
  exact errC_ok fun t ht => h t (List.mem_cons_of_mem _ ht)
theorem fac_of {s : List Vx} (hs : Zn s = 0) (hd : Zy s = true) (h5 : s.length <= 5) : ofP (ZCO s) = (maxC (ZCO s), 0) /\ GoodX (maxC (ZCO s)) /\ (maxC (ZCO s)).length <= 541 := by
 have hc := fac_chk hs hd h5
 have hl : (ZCO s).length <= 541 := by
  unfold ZCO
  rw [List.length_map]
  exact ord_len s.length h5
 have hm : (maxC (ZCO s)).length <= 541 := by
  have := List.Nodup.length_le_of_subset (maxC_asc (ZCO s)).nodup fun x hx => (ZCc.1 hx).1
  omega
 refine ⟨?_, good_max (fun t ht _ => hc t ht) (by omega), hm⟩
 unfold ofP
 rw [if_neg (by omega), if_neg (fun q => q (errC_ok hc))]
end
section
open Go.RowKit
structure ArrT (P : Program) (T V S : TypeId) : Prop where
 ix : ∀ b (i : Nat) w, i < 8 -> (Instr.indexAt T (.pointer (some ⟨b, 0, none⟩)) (.int .i64 (i : Int))).run P w = .ok (.pointer (some ⟨b, i * 2, none⟩)) w
 sl : ∀ b w, (Instr.sliceAt T (.pointer (some ⟨b, 0, none⟩)) none none none).run P w = .ok (.slice (some ⟨b, 0, none⟩) 8 8) w
 size : (P.info? T).map (·.size) = some 16
 agg : ∀ w, (isAgg T).run P w = .ok true w
 und : P.underlying S = some (.slice V)
 el : (P.info? V).map (·.size) = some 2
theorem arrT : ArrT Tryz.prog 147 45 28 := by
 constructor
 ·intro b i w h
  have h1 : (0 : Int) <= (i : Int) /\ (i : Int) < 8 := by omega
  go_simp
 ·intro b w; go_simp
 ·kernel_rfl
 ·exact Tryz.isAgg147
 ·exact Tryz.underlying28
 ·kernel_rfl
abbrev hA (b : Nat) (T : TypeId) (cs : List Value) : HObj := ZAW b (.cells cs.toArray T)
theorem Hp.swapObj {P0 : Nat -> Prop} {B : Nat} {w0 w : World} {o : HObj} {b : Nat} {c : Obj} {hp : List HObj} (h : Hp P0 B w0 (o :: hp) w) (hc : w.heap[b]? = some c) (hb : o.blk = some b := by rfl) : Hp P0 B w0 (ZAW b c :: hp) w := by
 have hI : ∀ k, Imm P0 B (o :: hp) k -> Imm P0 B (ZAW b c :: hp) k := fun k hk => ⟨hk.1, fun q hq => by
  rcases List.mem_cons.1 hq with rfl | hq
  ·intro e; exact hk.2 o (by simp) (hb.trans e)
  ·exact hk.2 q (List.mem_cons_of_mem _ hq)⟩
 refine ⟨h.base, h.below, fun q hq k hk => ?_, fun q hq => ?_, ?_⟩
 ·rcases List.mem_cons.1 hq with rfl | hq
  ·exact h.own o (by simp) k (hb.trans hk)
  ·exact h.own q (List.mem_cons_of_mem _ hq) k hk
 ·rcases List.mem_cons.1 hq with rfl | hq
  ·exact hc
  ·exact q.weak (h.ok q (List.mem_cons_of_mem _ hq)) hI
 ·have := List.pairwise_cons.1 h.apart
  exact List.pairwise_cons.2 ⟨fun q hq k hk => this.1 q hq k (hb.trans hk), this.2⟩
section
variable {P : Program} {ops : Array Oper} {hp : List HObj} {o : Oper} {fr : List Dat} {d d2 : Dat} {Q : Z1} {rest : List Oper}
variable {dst : Option Tmp} {ty : TypeId} {ps : String} {af : Array Edge} {g : Option (Nat × Bool)} {T T2 V S : TypeId} {b off : Nat} {cs : List Value}
theorem WL.allocA {n : Nat} (hz : TyZ P T (.agg cs.toArray)) (hs : (dX (.agg cs.toArray)).Shape n true) (h : ∀ b, WL P ops Q rest (ZB fr dst (dX (.pointer (some ⟨b, 0, none⟩)))) (hA b T cs :: hp)) :
  WL P ops Q ({ dst := dst, op := .alloc T, type := ty, pos := ps, after := af, guard := none } :: rest) fr hp :=
 WL.alloc hz hs fun b => WL.of fun P0 B w0 w a hh hf => by
  obtain ⟨cs', u, c1, c2, c0, c3, c4, c5⟩ := hh.ok (ZO b T n true (dX (.agg cs.toArray))) (by simp)
  have hu : u = .agg cs.toArray := c5
  simp only [if_true] at c4
  rw [hu] at c4
  have hcs : cs = cs' := by injection c4 with c4; exact List.toArray_inj c4
  subst hcs
  exact (h b).on (Hp.swapObj hh c1) (hf.mono fun d _ hd => d.weak hd fun k hk => ⟨hk.1, fun q hq => by
   rcases List.mem_cons.1 hq with rfl | hq
   ·exact hk.2 (ZO b T n true (dX (.agg cs.toArray))) (by simp)
   ·exact hk.2 q (List.mem_cons_of_mem _ hq)⟩)
theorem SY.ixA {x i : Operand} {k : Nat} {j : Int} (A : ArrT P T V S) (hx : OpD fr x (dX (.pointer (some ⟨b, 0, none⟩)))) (hi : OpD fr i (dI j)) (hj : j = (k : Int)) (hk : k < 8) :
  SY P ops hp { dst := dst, op := .indexAddr T x i, type := ty, pos := ps, after := af, guard := g } fr (dX (.pointer (some ⟨b, k * 2, none⟩))) := SY.val fun {I w a} ho => by
 have h1 : a.eval x = _ := hx.get (by simp [Op.operands]) ho
 have h2 : a.eval i = _ := hi.get (by simp [Op.operands]) ho
 refine ⟨_, ?_, rfl⟩
 unfold execOp
 simp only [h1, h2, hj, Sem.run_bind, A.ix b k w hk, Result.andThen_ok, Sem.run_pure]
theorem SY.fld0X {x : Operand} (W : VxT P V) (hx : OpD fr x (dX (.pointer (some ⟨b, off, none⟩)))) :
  SY P ops hp { dst := dst, op := .fieldAddr V x 0, type := ty, pos := ps, after := af, guard := g } fr (dX (.pointer (some ⟨b, off, none⟩))) := SY.val fun {I w a} ho => by
 have h1 : a.eval x = _ := hx.get (by simp [Op.operands]) ho
 refine ⟨_, ?_, rfl⟩
 unfold execOp
 simp only [h1, Sem.run_bind, W.fld0, Result.andThen_ok, Sem.run_pure, Nat.add_zero]
theorem SY.sliceA {x : Operand} (A : ArrT P T V S) (hx : OpD fr x (dX (.pointer (some ⟨b, 0, none⟩)))) :
  SY P ops hp { dst := dst, op := .slice T x none none none, type := ty, pos := ps, after := af, guard := g } fr (dX (.slice (some ⟨b, 0, none⟩) 8 8)) := SY.val fun {I w a} ho => by
 have h1 : a.eval x = _ := hx.get (by simp [Op.operands]) ho
 refine ⟨_, ?_, rfl⟩
 unfold execOp
 simp only [h1, Option.map_none, Sem.run_bind, A.sl, Result.andThen_ok, Sem.run_pure]
theorem SY.loadA {x : Operand} (A : ArrT P T V S) (hx : OpD fr x (dX (.pointer (some ⟨b, 0, none⟩)))) (hm : hA b T2 cs ∈ hp) (hl : cs.length = 16) (hone : ∀ c ∈ cs, c.oneCell' = true) :
  SY P ops hp { dst := dst, op := .load T x, type := ty, pos := ps, after := af, guard := g } fr (dX (.agg cs.toArray)) := ZAC fun {P0 B w0 w a} hh ho => by
 have h1 : a.eval x = _ := hx.get (by simp [Op.operands]) ho
 have hb : w.heap[b]? = some (.cells cs.toArray T2) := hh.ok _ hm
 have hc : Cells (fun _ => True) w b 0 16 true (.agg cs.toArray) := by
  refine ⟨trivial, cs, hl, by decide, hone, fun j c hc => ?_, rfl⟩
  simp [World.cell?, hb, hc]
 refine ⟨_, w, ?_, Ext.refl _, rfl⟩
 unfold execOp
 simp only [h1, Sem.run_bind, ZAY ⟨A.size, A.agg⟩ hc, Result.andThen_ok, Sem.run_pure]
theorem WL.storeA {p : Tmp} {x : Operand} {u : Value} (T' : TyI P T 1 false) (hp0 : OpD fr (.tmp p) (dX (.pointer (some ⟨b, off, none⟩)))) (hx : OpD fr x d) (hd : IsV d u) (hu : u.oneCell' = true) (ho : off < cs.length)
  (h : WL P ops Q rest (ZB fr dst (dX undef)) (hA b T2 (cs.set off u) :: hp)) :
  WL P ops Q ({ dst := dst, op := .store T (.tmp p) x, type := ty, pos := ps, after := af, guard := none } :: rest) fr (hA b T2 cs :: hp) := by
 refine WL.of fun P0 B w0 w a hh hf => ?_
 have h1 : a.eval (.tmp p) = _ := hp0.ev hf
 have h2 : a.eval x = u := hd.is _ _ _ (hx.ev hf)
 have hb : w.heap[b]? = some (.cells cs.toArray T2) := hh.ok (hA b T2 cs) (by simp)
 have hset := setCell_eq_setRow w b off cs.toArray T2 (0, 0) u hb
 have hc : w.cell? ⟨b, off, none⟩ = some cs[off] := by simp [World.cell?, hb, ho]
 have hfz : w.frozen? ⟨b, off, none⟩ = false := by simp [World.frozen?, hb]
 have hst : (store ((⟨b, off, none⟩ : Addr).add 0) u).run P w = .ok () (w.setCell ⟨b, off, none⟩ u) := by
  rw [show ((⟨b, off, none⟩ : Addr).add 0) = ⟨b, off, none⟩ from rfl, run_store P w _ u _ hu, hc]
  simp [hfz]
 have hsz : (sizeOf T).run P w = .ok 1 w := by
  have h5 := T'.size
  cases hq : P.info? T with
  | none => rw [hq] at h5; cases h5
  | some i =>
   rw [hq] at h5
   have : i.size = 1 := by simpa using h5
   rw [<- this]
   rw [run_sizeOf w hq]
   simp [Program.cellsOf, hq]
 have hw : w.setCell ⟨b, off, none⟩ u = w.setRow b (cs.set off u).toArray := by rw [hset]; simp
 have hrun : (execOp a.eval { dst := dst, op := .store T (.tmp p) x, type := ty, pos := ps, after := af, guard := none }).run P w = .ok .skip (w.setRow b (cs.set off u).toArray) := by
  rw [<- hw]
  unfold execOp
  simp only [h1, h2, Instr.storeAt, Instr.sureAddr, storeVar, Sem.run_bind, hsz, Result.andThen_ok, Sem.run_pure]
  simp [ZBo hu, storeCells, hst]
 refine wpList_plain rfl fun K hK => ?_
 unfold Oper.wp
 rw [hrun]
 have hgr : w.grownBy (w.setRow b (cs.set off u).toArray) (hA b T2 cs).blk := Z2
 have hok : (hA b T2 (cs.set off u)).ok (fun k => Imm P0 B (hA b T2 cs :: hp) k /\ k < w.heap.size) (w.setRow b (cs.set off u).toArray) := setRow_heap w b _ _ _ _ hb
 exact hK _ _ (h.on (hh.write hgr (.inl rfl) hok) (Fr.put (hf.mono fun _ _ hd => ZI (o' := hA b T2 (cs.set off u)) hgr (.inl rfl) hd) (d := dX undef) rfl))
theorem arrV_cells {I : Nat -> Prop} {w : World} {ad : Addr} {n cap : Nat} {xs : List Vx} (h : ArrK 2 RV I w (.slice (some ad) n cap) xs) : ∀ j u, (ZZ xs)[j]? = some u -> w.cell? (ad.add j) = some u := by
 obtain ⟨ad', cap', hv, c1, c2, c0, c3⟩ := h
 cases hv
 intro j u hu
 have hlt := (List.getElem?_eq_some_iff.1 hu).1
 rw [Zf] at hlt
 have hk : j / 2 < xs.length := by omega
 obtain ⟨cs, b, off, r1, r2, r3, r4, r5, r6⟩ := c3 (j / 2) hk
 cases r4
 have hcs : cs = [.int .i64 xs[j / 2].1, .int .i64 xs[j / 2].2] := by
  have h1 : Value.agg cs.toArray = .agg #[.int .i64 xs[j / 2].1, .int .i64 xs[j / 2].2] := r1
  injection h1 with h1; exact List.toArray_inj h1
 subst hcs
 have hg := flatV_get hk
 rw [Addr.add_lit]
 rcases Nat.mod_two_eq_zero_or_one j with hj | hj
 ·have e : j = j / 2 * 2 := by omega
  rw [e] at hu
  rw [hg.1] at hu
  cases hu
  have := r6 0 _ rfl
  rw [show off + j = off + j / 2 * 2 + 0 by omega]
  exact this
 ·have e : j = j / 2 * 2 + 1 := by omega
  rw [e] at hu
  rw [hg.2] at hu
  cases hu
  have := r6 1 _ rfl
  rw [show off + j = off + j / 2 * 2 + 1 by omega]
  exact this
theorem WL.copyA {x y : Operand} {s : List Vx} {T' : TypeId} (A : ArrT P T V S) (hx : OpD fr x (dX (.slice (some ⟨b, 0, none⟩) 8 8))) (hy : OpD fr y (dS ZF s)) (hs : s.length <= 8) (hl : cs.length = 16)
  (h : WL P ops Q rest (ZB fr dst (dI (s.length : Int))) (hA b T2 (ZZ s ++ cs.drop (s.length * 2)) :: hp)) :
  WL P ops Q ({ dst := dst, op := .call { callee := .builtin .copy, args := #[x, y], argTypes := #[S, T'] }, type := ty, pos := ps, after := af, guard := none } :: rest) fr (hA b T2 cs :: hp) := by
 refine WL.of fun P0 B w0 w a hh hf => ?_
 have h1 : a.eval x = _ := hx.ev hf
 have h2 : ArrK 2 RV (Imm P0 B (hA b T2 cs :: hp)) w (a.eval y) s := hy.ev hf
 have hb : w.heap[b]? = some (.cells cs.toArray T2) := hh.ok (hA b T2 cs) (by simp)
 have hsz : (sizeOf V).run P w = .ok 2 w := by
  have h5 := A.el
  cases hq : P.info? V with
  | none => rw [hq] at h5; cases h5
  | some i =>
   rw [hq] at h5
   have : i.size = 2 := by simpa using h5
   rw [<- this]
   rw [run_sizeOf w hq]
   simp [Program.cellsOf, hq]
 have hst := run_storeCells_at P b 0 T2 (ZZ s) 0 cs.toArray w hb (by rw [Zf]; simp [hl]; omega) (flatV_one s)
 simp only [Nat.zero_add, List.take_zero, List.nil_append] at hst
 have hmin : Nat.min s.length 8 = s.length := Nat.min_eq_left hs
 have hrun : (execOp a.eval { dst := dst, op := .call { callee := .builtin .copy, args := #[x, y], argTypes := #[S, T'] }, type := ty, pos := ps, after := af, guard := none }).run P w = .ok (.value (.int .i64 s.length)) (w.setRow b (ZZ s ++ cs.drop (s.length * 2)).toArray) := by
  have h3 := h2
  obtain ⟨ad, cap, hv, c1, c2, c0, c3⟩ := h3
  rw [hv] at h2
  have hcopy : (Builtin.copy_ #[S, T'] ty #[.slice (some ⟨b, 0, none⟩) 8 8, .slice ad s.length cap]).run P w = .ok (.int .i64 s.length) (w.setRow b (ZZ s ++ cs.drop (s.length * 2)).toArray) := by
   cases ad with
   | none =>
    have hy0 : s = [] := by
     cases s with
     | nil => rfl
     | cons y ys => obtain ⟨_, _, _, _, _, _, hc, _⟩ := c3 0 (by simp); cases hc
    subst hy0
    simp [ZBm, storeCells] at hst
    simp [Builtin.copy_, run_underlying A.und, Builtin.lenOf, Builtin.firstCells, hsz, storeCells, ZBm, goInt]
    exact hst
   | some ad =>
    have hld := run_loadCells_list (P := P) w ad (ZZ s) (arrV_cells h2)
    rw [Zf] at hld
    rw [Zf] at hst
    simp [Builtin.copy_, run_underlying A.und, Builtin.lenOf, Builtin.firstCells, hsz, hmin, hld, hst, goInt]
  unfold execOp
  simp [resolve, invoke, builtin, h1, hv, hcopy, Result.andThen]
 refine Zb rfl hrun ?_
 have hgr : w.grownBy (w.setRow b (ZZ s ++ cs.drop (s.length * 2)).toArray) (hA b T2 cs).blk := Z2
 have hok : (hA b T2 (ZZ s ++ cs.drop (s.length * 2))).ok (fun k => Imm P0 B (hA b T2 cs :: hp) k /\ k < w.heap.size) (w.setRow b (ZZ s ++ cs.drop (s.length * 2)).toArray) := setRow_heap w b _ _ _ _ hb
 exact h.on (hh.write hgr (.inl rfl) hok) (Fr.put (hf.mono fun _ _ hd => ZI (o' := hA b T2 (ZZ s ++ cs.drop (s.length * 2))) hgr (.inl rfl) hd) rfl)
end
end
section
open Go.RowKit

theorem tyK : TyI Tryz.prog 147 16 true := ⟨by kernel_rfl, Tryz.isAgg147⟩
theorem tzK : TyZ Tryz.prog 147 (.agg (ZZ (List.replicate 8 (0, 0))).toArray) := ⟨by kernel_rfl⟩
theorem shape_16 {cs : List Value} (h : cs.length = 16) (h1 : ∀ c ∈ cs, c.oneCell' = true) : (dX (.agg cs.toArray)).Shape 16 true := fun _ _ _ hu => by
 cases (hu : _ = _)
 exact ⟨cs, h, by decide, h1, rfl, rfl⟩
theorem shape_8 {l : List Vx} (h : l.length = 8) : (dX (.agg (ZZ l).toArray)).Shape 16 true := shape_16 (by rw [Zf, h]) (flatV_one l)
def minK (k : Nat) : List Vx := List.replicate k (-1, 0) ++ List.replicate (8 - k) (0, 0)
theorem minK_next {k : Nat} (h : k < 8) : (ZZ (minK k)).set (k * 2) (.int .i64 (-1)) = ZZ (minK (k + 1)) := by
 have : k = 0 \/ k = 1 \/ k = 2 \/ k = 3 \/ k = 4 \/ k = 5 \/ k = 6 \/ k = 7 := by omega
 rcases this with rfl | rfl | rfl | rfl | rfl | rfl | rfl | rfl <;> rfl
theorem flatV_drop : ∀ (l : List Vx) (k : Nat), (ZZ l).drop (k * 2) = ZZ (l.drop k)
 | l, 0 => by simp
 | [], k + 1 => by simp [ZBm]
 | x :: l, k + 1 => by
  rw [ZAP, show (k + 1) * 2 = k * 2 + 2 by omega]
  simpa using flatV_drop l k
theorem keyed_p (s : List Vx) (hs : s.length <= 8) : Fn Tryz.prog 107 [dS ZF s] (dX (kvK s)) := by
 refine Fn.introC1 tyK Tryz.func107 rfl rfl ?_
 simp only [Tryz.ntmps107, List.length_cons, List.length_nil, Nat.reduceAdd, Nat.reduceSub, List.replicate_succ, List.replicate_zero, List.cons_append, List.nil_append]
 refine ZA fun Kx hK => ?_
 refine WC.region ?_
 refine WL.alloc tzK (shape_8 (by simp)) fun b2 => ?_
 dsimp only [ZB, z0, z1]
 (repeat' (first | (apply WL.opN; exact yF; dsimp only [ZB, z0, z1]) | refine WL.nil ?_ | refine ZA fun Kx hK => ?_ | (refine hK _ _ ?_; clear hK) | refine WC.region ?_ |  (refine WL.allocA (n := 16) tzK (shape_8 (by simp)) fun b3 => ?_; dsimp only [ZB, z0, z1]) | refine WC.block ?_))
 (refine WC.loopU (X := Nat) (fun k => [(5, dI (k : Int)), (4, dA), (6, dA), (7, dA), (8, dA), (9, dA), (10, dA), (11, dA)]) (fun k => [hA b3 147 (ZZ (minK k)), ZO b2 147 16 true (dX (.agg (ZZ (List.replicate 8 (0, 0))).toArray))]) (fun k => 8 - k) (fun k => k <= 8) 0 ?start ?frame0 ?objs0 ?round)
 case start => exact Nat.zero_le _
 case frame0 => ((try dsimp only [ZL, z0, z1]); repeat (first | exact LeF.nil | refine ZD (k := ?_)))
 case objs0 => rfl
 case round =>
  rintro k h1
  dsimp only [ZL, z0, z1]
  ((repeat' (first | (apply WL.opN; exact yF; dsimp only [ZB, z0, z1]) | refine WL.nil ?_ | refine ZA fun Kx hK => ?_ | (refine hK _ _ ?_; clear hK) | (refine Kont.skip ?_; clear hK) | refine WC.region ?_ |  (refine WL.storeA (u := .int .i64 (-1)) tyI (OpD.t rfl) OpD.i isI rfl (by rw [Zf]; simp [minK]; omega) ?_; rw [minK_next (by omega)]; dsimp only [ZB]) |  (refine WL.copyA arrT (OpD.t rfl) (OpD.t rfl) hs (by rw [Zf]; simp [minK]; omega) ?_; dsimp only [ZB, z0, z1]) | (apply WL.opN; (focus ((first | (apply SY.ixA arrT; exact OpD.t rfl; exact OpD.t rfl; rfl; omega) | (apply SY.fld0X vxT; exact OpD.t rfl) | (apply SY.sliceA arrT; exact OpD.t rfl) | exact ZBu | exact yAdd | fail); all_goals infer_instance)); dsimp only [ZB, z0, z1]) | (apply ZC; (exact oD); all_goals (intro h; try exact xD)) | refine WC.skip ?_ | refine WC.exit ?_ | refine WC.block ?_ | refine ThenD.n ?_)); all_goals (first | refine WL.id ?_ | ((repeat clear hK); (repeat clear Kx))))
  ·(refine ⟨k + 1, ?_, by first | omega | (simp only; omega), rfl, ?_⟩; rotate_left; ((try dsimp only [ZL, z0, z1]); repeat (first | exact LeF.nil | refine ZD (k := ?_))); (try dsimp only))
   omega
  ·have h8 : k = 8 := by omega
   subst h8
   have e : ZZ s ++ (ZZ (minK 8)).drop (s.length * 2) = ZZ (padK s) := by
    rw [flatV_drop, <- ZAi]
    unfold padK minK
    rw [show (8 : Nat) - 8 = 0 from rfl, List.replicate_zero, List.append_nil, List.drop_replicate]
   rw [e]
   refine WL.op rfl (SY.loadA arrT (OpD.t rfl) (.head _) (by rw [Zf, padK_len hs]) (flatV_one _)) ?_
   dsimp only [ZB, z0, z1]
   refine WL.perm (List.Perm.swap _ _ _) ?_
   refine WL.storeF tyK rfl (OpD.t rfl) (shape_8 (padK_len hs)) ?_
   dsimp only [ZB, z0, z1]
   refine WL.nil (hK _ _ ?_)
   exact WC.ret ⟨trivial, _, rfl, FinD.eq rfl⟩
end
end Go.Proofs.YtmcllakdbgnfiaaGreatDoor
