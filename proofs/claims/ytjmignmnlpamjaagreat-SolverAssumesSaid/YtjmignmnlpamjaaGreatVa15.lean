/- Part 15: walks by contracts, and plain laws. -/
import Derived.Test.YtjmignmnlpamjaaGreatVa14
set_option linter.unusedVariables false
set_option linter.unusedSimpArgs false
set_option linter.unusedSectionVars false
set_option maxRecDepth 100000
set_option maxHeartbeats 4000000
namespace Go.Proofs.YtjmignmnlpamjaaGreat
section
open Go.RowKit
open S43 (SS up)
section
variable {P : Program} {ops : Array Oper} {hp : List HObj} {o : Oper} {fr : List Dat} {d : Dat} {Q : ZAb} {rest : List Oper} {c x1 x2 y : Code}
variable {dst : Option Tmp} {ty : TypeId} {ps : String} {af : Array Edge} {g : Option (Nat × Bool)} {T t e e' : TypeId} {bytes n : Nat} {z v : Value} {ag : Bool}
theorem Zv {x : Operand} {agg : Bool} (T' : TyI P T n agg) (hx : OpD fr x (dX v)) (hm : ZC9 v (dP n agg d) ∈ hp) : SY P ops hp ⟨dst, .load T x, ty, ps, af, g⟩ fr d := ZAm fun {P0 B w0 w a} hh ho => by
 have h1 : a.eval x = v := hx.get (by simp [Op.operands]) ho
 obtain ⟨b, off, u, h2, hc, hd⟩ := (hh.ok _ hm : (dP n agg d).rd _ w v)
 refine ⟨u, w, ?_, Ext.refl _, hd⟩
 unfold execOp
 simp only [h1, h2, Sem.run_bind, ZCK T' hc, Result.andThen_ok, Sem.run_pure]
theorem ZDM {x : Operand} {k : Nat} {us : List Value} {u : Value} (T' : TyI P T 1 false) (hx : OpD fr x (dX (ZBD v k))) (hm : ZS v e' ZJe us ∈ hp) (hk : k < us.length) (hu : us[k] = u) :
  SY P ops hp ⟨dst, .load T x, ty, ps, af, g⟩ fr (dX u) := by
 subst hu
 have := ZAd (P := P) (ops := ops) (hp := hp) (fr := fr) (dst := dst) (ty := ty) (ps := ps) (af := af) (g := g) (R := ZJe) (_gR := inferInstance) T' hx hm hk
 exact ⟨fun hh ho K Q hK => this.out hh ho K Q fun v w' e hd => hK v w' e (le_RX _ _ _ hd)⟩
theorem Zh {x : Operand} {k : Nat} {xs : List Int} {i : Int} (T' : TyI P T 1 false) (hx : OpD fr x (dX (ZBD v k))) (hm : ZS v e' RI xs ∈ hp) (hk : k < xs.length) (hu : xs[k] = i) :
  SY P ops hp ⟨dst, .load T x, ty, ps, af, g⟩ fr (dI i) := hu ▸ ZAd T' hx hm hk
def JoinQ (F : List Dat) (H : List HObj) : ZAb := fun e f q => e = .normal /\ q = H /\ LeF f F
theorem ZLR (t : Nat) (A B : List HObj) (ht : fr[t]? = some d) (hA : hp = A ++ B) (h : ∀ v, WC P Q c (fr.set t (dX v)) (A ++ ZC9 v d :: B)) : WC P Q c fr hp := WC.pin t ht fun v => by
 subst hA
 exact WC.perm List.perm_middle.symm (h v)
theorem mT10 {o a0 a1 a2 a3 a4 a5 a6 a7 a8 a9 : HObj} {L B : List HObj} (h : o ∈ L) : o ∈ a0 :: a1 :: a2 :: a3 :: a4 :: a5 :: a6 :: a7 :: a8 :: a9 :: (L ++ B) := by
 simp only [List.mem_cons, List.mem_append]
 simp [h]
end
theorem ZKO {v : Value} : ZEj v 0 = v := by
 unfold ZEj
 split
 ·rename_i b o s n cap
  simp
 ·rfl
def ZFU (p : Int -> Bool) (l : List Int) : Int := match l.findIdx? p with
 | some n => (n : Int)
 | none => -1
theorem ZF0 {p : Int -> Bool} {l : List Int} {i : Nat} (hi : i < l.length) (h : p l[i] = true) (hn : ∀ j (hj : j < i), p (l[j]'(by omega)) = false) : ZFU p l = (i : Int) := by
 have : l.findIdx? p = some i := List.findIdx?_eq_some_iff_getElem.2 ⟨hi, h, fun j hj => by simpa using hn j hj⟩
 unfold ZFU
 rw [this]
theorem ZEg {p : Int -> Bool} {l : List Int} (hn : ∀ j (hj : j < l.length), p l[j] = false) : ZFU p l = -1 := by
 have : l.findIdx? p = none := List.findIdx?_eq_none_iff.2 fun x hx => by
  obtain ⟨j, hj, rfl⟩ := List.getElem_of_mem hx
  exact hn j hj
 unfold ZFU
 rw [this]
set_option maxHeartbeats 4000000 in
theorem ZKY (v : Value) (xs : List Int) (l : Nat) (hl : l ≤ xs.length) (hxl : xs.length ≤ 1000000) (gf : FuncId) (caps : List Value) (he : ZBu Tryz.prog gf) (O : List HObj) (p : Int -> Bool)
  (hcl : ∀ x ∈ xs.drop l, CallC Tryz.prog gf ([dI x] ++ caps.map dX) (ZS v tI RI xs :: O) (fun d hp2 => d = dB (p x) /\ hp2 = ZS v tI RI xs :: O)) :
  CallC Tryz.prog 96 ([dX (ZEj v l), dX (.func (.func gf) #[] caps.toArray)] ++ ([] : List Value).map dX) (ZS v tI RI xs :: O) (fun d hp2 => d = dI (ZFU p (xs.drop l)) /\ hp2 = ZS v tI RI xs :: O) := by
 (refine Zo Tryz.func96 rfl rfl (fun hp => ?_); simp only [Tryz.ntmps96, List.length_cons, List.length_nil, List.length_append, List.length_map, Nat.reduceAdd, Nat.reduceSub, List.replicate_succ, List.replicate_zero, List.cons_append, List.nil_append, List.map_cons, List.map_nil, List.append_assoc])
 (repeat' (first | (apply WL.opN; exact yF; dsimp only [ZB, z0, z1]) | refine WL.nil ?_ | refine ZA fun Kx hK => ?_ | (refine hK _ _ ?_; clear hK) | refine WC.region ?_ | (apply WL.opN; (focus ((first | (exact ZDg Tryz.underlying25 (OpD.t rfl) (mAt 0 rfl) hl) | fail); all_goals infer_instance)); dsimp only [ZB, z0, z1]) | refine WC.block ?_))
 (refine ZP (X := Nat) (fun i => [(8, dI (i : Int)), (4, dA), (5, dA), (9, dA), (10, dA), (11, dA), (12, dA), (13, dA), (14, dA), (15, dA), (16, dA), (17, dA), (18, dA)]) (fun i => (ZS v tI RI xs :: (O ++ hp))) (fun i => xs.length - l - i) (fun i => i ≤ xs.length - l /\ ∀ j (hj : j < i) (hjx : l + j < xs.length), p xs[l + j] = false) 0 ?start ?frame0 ?objs0 ?round)
 case start => exact ⟨Nat.zero_le _, fun j hj => absurd hj (Nat.not_lt_zero j)⟩
 case frame0 => ((try dsimp only [ZX, z0, z1]); repeat (first | exact LeF.nil | refine ZG (k := ?_)))
 case objs0 => rfl
 case round =>
  rintro i ⟨hi, hno⟩
  dsimp only [ZX, z0, z1]
  by_cases hin : l + i < xs.length
  ·have hlt : (i : Int) < ((xs.length - l : Nat) : Int) := by omega
   have hmem : xs[l + i] ∈ xs.drop l := by
    rw [List.mem_iff_getElem]
    exact ⟨i, by rw [List.length_drop]; omega, by rw [List.getElem_drop]⟩
   have hC := hcl _ hmem
   ((repeat' (first | (apply WL.opN; exact yF; dsimp only [ZB, z0, z1]) | refine WL.nil ?_ | refine ZA fun Kx hK => ?_ | (refine hK _ _ ?_; clear hK) | refine WC.region ?_ |  (refine WL.callC (hp1 := ZS v tI RI xs :: O) (caps := caps) hC he (OpD.t rfl) (ArgsD.cons (OpD.t rfl) ArgsD.nil) ?_; rintro d' hp2 ⟨rfl, rfl⟩; dsimp only [ZB, z0, z1, List.cons_append]) | (apply WL.opN; (focus ((first | (exact ZCa elI (OpD.t rfl) (mAt 0 rfl) (OpD.t rfl) rfl hin) | (exact ZAd tyI (OpD.t rfl) (mAt 0 rfl) hin) | ((first | apply SY.move | apply SY.assign | apply SY.lss) <;> (exact oD)) | ((first | apply SY.add) <;> first | exact oD | omega) | fail); all_goals infer_instance)); dsimp only [ZB, z0, z1]) | (apply ZC; (exact oD); all_goals (intro h; try exact xD)) | (apply WC.cond; (exact oD); all_goals (intro h; try exact xD)) | refine WC.skip ?_ | refine WC.ret ?_ | refine WC.block ?_ | refine ThenD.n ?_ | refine ThenD.r ?_ | refine InBlockD.r ?_)); all_goals (first | ((repeat clear hK); (repeat clear Kx))))
   all_goals try (exfalso; first | contradiction | omega)
   ·rename_i hp1
    refine ⟨trivial, _, ZS v tI RI xs :: O, rfl, rfl, ?_, rfl⟩
    have e1 : ZFU p (xs.drop l) = (i : Int) := ZF0 (by rw [List.length_drop]; omega) (by rw [List.getElem_drop]; first | exact hp1 | exact h) fun j hj => by rw [List.getElem_drop]; exact hno j hj (by omega)
    rw [e1]
   ·rename_i hp1
    (refine ⟨i + 1, ?_, by first | omega | (simp only; omega), rfl, ?_⟩; rotate_left; ((try dsimp only [ZX, z0, z1]); repeat (first | exact LeF.nil | refine ZG (k := ?_))); (try dsimp only))
    refine ⟨by omega, fun j hj hjx => ?_⟩
    by_cases hji : j = i
    ·subst hji; first | exact hp1 | exact h
    ·exact hno j (by omega) hjx
  ·have hlt : ¬ (i : Int) < ((xs.length - l : Nat) : Int) := by omega
   ((repeat' (first | (apply WL.opN; exact yF; dsimp only [ZB, z0, z1]) | refine WL.nil ?_ | refine ZA fun Kx hK => ?_ | (refine hK _ _ ?_; clear hK) | (refine Kont.skip ?_; clear hK) | refine WC.region ?_ | (apply WL.opN; (focus ((first | ((first | apply SY.move | apply SY.assign | apply SY.lss) <;> (exact oD)) | fail); all_goals infer_instance)); dsimp only [ZB, z0, z1]) | (apply ZC; (exact oD); all_goals (intro h; try exact xD)) | refine WC.ret ?_ | refine WC.exit ?_)); all_goals (first | ((repeat clear hK); (repeat clear Kx))))
   all_goals try (exfalso; first | contradiction | omega)
   refine ⟨trivial, _, ZS v tI RI xs :: O, rfl, rfl, ?_, rfl⟩
   have e1 : ZFU p (xs.drop l) = -1 := ZEg fun j hj => by
    rw [List.length_drop] at hj
    rw [List.getElem_drop]; exact hno j (by omega) (by omega)
   rw [e1]
theorem ZNi (X : Lay) (V : Nat) (s : SS) (v1 : Value) (x : Int) (hx : x.natAbs ≤ 1000000) :
  CallC Tryz.prog 101 ([dI x] ++ [v1].map dX) [ZC9 v1 (dP 1 false (dX (ZDZ X))), oS X V s, oV X s] (fun d hp2 => d = dB (!s.val (-x)) /\ hp2 = [ZC9 v1 (dP 1 false (dX (ZDZ X))), oS X V s, oV X s]) := by
 (refine Zo Tryz.func101 rfl rfl (fun hp => ?_); simp only [Tryz.ntmps101, List.length_cons, List.length_nil, List.length_append, List.length_map, Nat.reduceAdd, Nat.reduceSub, List.replicate_succ, List.replicate_zero, List.cons_append, List.nil_append, List.map_cons, List.map_nil, List.append_assoc])
 have h6 : ZAF (-x) := i64 (by omega)
 ((repeat' (first | (apply WL.opN; exact yF; dsimp only [ZB, z0, z1]) | refine WL.nil ?_ | refine ZA fun Kx hK => ?_ | (refine hK _ _ ?_; clear hK) | refine WC.region ?_ | (apply WL.opN; (focus ((first | (exact Zv tyC (OpD.t rfl) (mAt 0 rfl)) | (exact ZH (OpD.t rfl)) | (refine ZM ZAz (OpD.t rfl) (by decide)) | (apply ZI; exact tyF; exact OpD.t rfl; exact mAt 1 rfl; rfl) | (exact SY.neg (OpD.t rfl) (by omega)) | (exact SY.valG (OpD.t rfl) (mAt 2 rfl) (OpD.t rfl) h6) | ((first | apply SY.move | apply SY.assign | apply SY.not) <;> (exact oD)) | fail); all_goals infer_instance)); dsimp only [ZB, z0, z1]) | refine WC.ret ?_)); all_goals (first | ((repeat clear hK); (repeat clear Kx))))
 exact ⟨trivial, _, [_, _, _], rfl, rfl, rfl, rfl⟩
end
end Go.Proofs.YtjmignmnlpamjaaGreat
namespace Go.Proofs.YtjmignmnlpamjaaGreat.S43
section
def pw (N : Nat) (l : List Nat) : Nat := (l.map fun x => 2 ^ (N - x)).sum
theorem ZNj {N : Nat} : ∀ {l : List Nat} {a : Nat}, l.Pairwise (· < ·) -> (∀ x ∈ l, a ≤ x /\ x ≤ N) -> a ≤ N + 1 -> pw N l < 2 ^ (N + 1 - a)
 | [], a, _, _, _ => Nat.two_pow_pos _
 | x :: l, a, h, hr, ha => by
  obtain ⟨h1, h2⟩ := List.pairwise_cons.1 h
  obtain ⟨g1, g2⟩ := hr x (by simp)
  have ih := ZNj (N := N) (a := x + 1) h2 (fun y hy => ⟨h1 y hy, (hr y (by simp [hy])).2⟩) (by omega)
  have e : pw N (x :: l) = 2 ^ (N - x) + pw N l := by unfold pw; rw [List.map_cons, List.sum_cons]
  rw [e, show N + 1 - (x + 1) = N - x by omega] at *
  have h3 : 2 ^ (N + 1 - x) = 2 ^ (N - x) + 2 ^ (N - x) := by
   rw [show N + 1 - x = (N - x) + 1 by omega, Nat.pow_succ]
   omega
  have h4 : 2 ^ (N + 1 - x) ≤ 2 ^ (N + 1 - a) := Nat.pow_le_pow_right (by decide) (by omega)
  omega
theorem ZEx (N : Nat) (a b : List Nat) : pw N (a ++ b) = pw N a + pw N b := by
 unfold pw
 rw [List.map_append, List.sum_append]
def ZLn (bs : List Nat) (n : Nat) : List Nat := (List.range n).map fun p => p + lvp bs p
theorem ZLo (bs : List Nat) (n : Nat) : (ZLn bs n).Pairwise (· < ·) := by
 unfold ZLn
 refine List.pairwise_map.2 (List.Pairwise.imp (fun {a b} h => ?_) List.pairwise_lt_range)
 have := ZBe (bs := bs) (Nat.le_of_lt h)
 omega
theorem ZNG {bs : List Nat} {n K V : Nat} (hb : bs.length ≤ K) (hn : n ≤ V) : ∀ x ∈ ZLn bs n, x ≤ V + K := fun x hx => by
 obtain ⟨p, hp, rfl⟩ := List.mem_map.1 hx
 have := List.mem_range.1 hp
 have := ZIR bs p
 omega
def mu (N : Nat) (bs : List Nat) (n : Nat) : Nat := pw N (ZLn bs n)
theorem mu_lt {bs : List Nat} {n K V : Nat} (hb : bs.length ≤ K) (hn : n ≤ V) : mu (V + K) bs n < 2 ^ (V + K + 1) :=
 ZNj (a := 0) (ZLo bs n) (fun x hx => ⟨Nat.zero_le _, ZNG hb hn x hx⟩) (Nat.zero_le _)
theorem mu_mono {N : Nat} {bs : List Nat} {n m : Nat} (h : n ≤ m) : mu N bs n ≤ mu N bs m := by
 obtain ⟨k, rfl⟩ : ∃ k, m = n + k := ⟨m - n, by omega⟩
 unfold mu ZLn
 rw [List.range_add, List.map_append, ZEx]
 omega
theorem ZF9 {N : Nat} {bs : List Nat} {n b : Nat} (h : n ≤ b) : mu N (bs ++ [b]) n = mu N bs n := by
 unfold mu ZLn
 congr 1
 refine List.map_congr_left fun p hp => ?_
 have := List.mem_range.1 hp
 rw [ZBA, ZDW (bs := [b]) fun c hc => by rw [List.mem_singleton.1 hc]; omega, Nat.add_zero]
theorem ZKh {N : Nat} {bs : List Nat} {n : Nat} : mu N bs (n + 1) = mu N bs n + 2 ^ (N - (n + lvp bs n)) := by
 unfold mu ZLn
 rw [List.range_succ, List.map_append, ZEx]
 congr 1
theorem ZL4 {bs : List Nat} {t K V l : Nat} (hs : bs.Pairwise (· ≤ ·)) (hl : l < bs.length) (hb : bs.length ≤ K) (ht : t ≤ V) (hbt : bs[l] ≤ t) : mu (V + K) bs t < mu (V + K) (bs.take l) (bs[l] + 1) := by
 have e1 : mu (V + K) (bs.take l) bs[l] = mu (V + K) bs bs[l] := by
  unfold mu ZLn
  congr 1
  refine List.map_congr_left fun p hp => ?_
  rw [ZF7 hs hl (List.mem_range.1 hp)]
 have e2 : lvp (bs.take l) bs[l] = l := by
  rw [ZCj (ZCT hs hl).1, List.length_take]
  omega
 rw [ZKh, e1, e2]
 obtain ⟨k, rfl⟩ : ∃ k, t = bs[l] + k := ⟨t - bs[l], by omega⟩
 have e3 : mu (V + K) bs (bs[l] + k) = mu (V + K) bs bs[l] + pw (V + K) ((List.range k).map fun p => (bs[l] + p) + lvp bs (bs[l] + p)) := by
  unfold mu ZLn
  rw [List.range_add, List.map_append, ZEx, List.map_map]
  rfl
 rw [e3]
 have h1 := ZNj (N := V + K) (l := (List.range k).map fun p => (bs[l] + p) + lvp bs (bs[l] + p)) (a := bs[l] + l + 1) (by
  refine List.pairwise_map.2 (List.Pairwise.imp (fun {a b} h => ?_) List.pairwise_lt_range)
  have := ZBe (bs := bs) (show bs[l] + a ≤ bs[l] + b by omega)
  omega) (fun x hx => by
  obtain ⟨p, hp, rfl⟩ := List.mem_map.1 hx
  have h2 := List.mem_range.1 hp
  have h3 := ZMg hs hl (show bs[l] ≤ bs[l] + p by omega)
  have h4 := ZIR bs (bs[l] + p)
  exact ⟨by omega, by omega⟩) (by omega)
 rw [show V + K + 1 - (bs[l] + l + 1) = V + K - (bs[l] + l) by omega] at h1
 omega
def meas (V K : Nat) (bs : List Nat) (t : Nat) : Nat := (2 ^ (V + K + 1) - mu (V + K) bs t) * (K + 1) + (K - bs.length)
theorem ZKf {V K : Nat} {bs bs' : List Nat} {t t' : Nat} (h : mu (V + K) bs t < mu (V + K) bs' t') (hb : bs'.length ≤ K) (ht : t' ≤ V) : meas V K bs' t' < meas V K bs t := by
 have h1 := mu_lt hb ht
 unfold meas
 have h2 : 2 ^ (V + K + 1) - mu (V + K) bs' t' + 1 ≤ 2 ^ (V + K + 1) - mu (V + K) bs t := by omega
 have h3 := Nat.mul_le_mul_right (K + 1) h2
 rw [Nat.add_mul] at h3
 omega
theorem ZI4 {V K : Nat} {bs : List Nat} {t b : Nat} (h : t ≤ b) (hb : bs.length < K) : meas V K (bs ++ [b]) t < meas V K bs t := by
 unfold meas
 rw [ZF9 h, List.length_append, List.length_singleton]
 omega
structure RS where
 s : SS
 learned : List Cl
structure GInv (V : Nat) (asm : List Int) (cls : List Cl) (r : RS) : Prop where
 inv : Inv V r.s r.s.watch fun _ => False
 list : SameC (cls ++ r.learned) r.s.list
 rup : ∀ (i : Nat) (c : Cl), r.learned[i]? = some c -> Conf (cls ++ r.learned.take i) fun z => ∃ y ∈ c, z = -y
 dead : r.s.dead = true -> Conf r.s.list fun _ => False
 dcs : ∀ x ∈ r.s.trail, r.s.rea x.natAbs = none -> r.s.lev x.natAbs ≤ asm.length -> x ∈ asm
 ast : ∀ (j : Nat) (x : Int), asm[j]? = some x -> j < r.s.begins.length -> x ∈ r.s.trail /\ r.s.lev x.natAbs ≤ j + 1
 b1 : ∀ (j b : Nat), r.s.begins[j]? = some b -> j ≤ asm.length + b
 b2 : r.s.begins.length ≤ asm.length + r.s.trail.length
 cnt : r.learned.length ≤ mu (V + (asm.length + V)) r.s.begins r.s.trail.length
theorem Conf.monoL {l l' : List Cl} {a : Int -> Prop} (h : ∀ c ∈ l, ∃ c' ∈ l', c'.Perm c) (k : Conf l a) : Conf l' a := by
 have go : ∀ x, Der l a x -> Der l' a x := fun x hx => by
  induction hx with
  | base q => exact .base q
  | step h1 h2 _ ih =>
   obtain ⟨c', c1, c2⟩ := h _ h1
   exact .step c1 (c2.mem_iff.2 h2) fun y hy hne => ih y (c2.mem_iff.1 hy) hne
 obtain ⟨c, hc, h1⟩ := k
 obtain ⟨c', c1, c2⟩ := h c hc
 exact ⟨c', c1, fun y hy => go _ (h1 y (c2.mem_iff.1 hy))⟩
theorem SameC.to {l l' : List Cl} (h : SameC l l') : ∀ c ∈ l, ∃ c' ∈ l', c'.Perm c := fun c hc => by
 obtain ⟨k, hk⟩ := ZBy.1 hc
 obtain ⟨c', c1, c2⟩ := h.2 k c hk
 exact ⟨c', List.mem_of_getElem? c1, c2⟩
theorem SameC.symm {l l' : List Cl} (h : SameC l l') : SameC l' l := ⟨h.1.symm, fun k c e => by
 have hk : k < l.length := by rw [h.1]; exact (List.getElem?_eq_some_iff.1 e).1
 obtain ⟨c', c1, c2⟩ := h.2 k l[k] (List.getElem?_eq_getElem hk)
 rw [e] at c1
 cases c1
 exact ⟨l[k], List.getElem?_eq_getElem hk, c2.symm⟩⟩
theorem SameC.snoc {l l' : List Cl} (h : SameC l l') {c c' : Cl} (hc : c'.Perm c) : SameC (l ++ [c]) (l' ++ [c']) := ⟨by simp [h.1], fun k x e => by
 rcases app_last e with ⟨q1, q2⟩ | ⟨rfl, rfl⟩
 ·obtain ⟨y, y1, y2⟩ := h.2 k x q2
  exact ⟨y, by rw [List.getElem?_append_left (by rw [<- h.1]; exact q1)]; exact y1, y2⟩
 ·exact ⟨c', by rw [h.1]; exact ZJw, hc⟩⟩
section
variable {V : Nat} {asm : List Int} {cls : List Cl} {r : RS}
theorem GInv.tl (h : GInv V asm cls r) : r.s.trail.length ≤ V := trail_len h.inv.trng h.inv.tdis
theorem GInv.bl (h : GInv V asm cls r) : r.s.begins.length ≤ asm.length + V := Nat.le_trans h.b2 (Nat.add_le_add_left h.tl _)
theorem GInv.prop (h : GInv V asm cls r) (hn : (ZAG (V + 1) r.s).2 = none) : GInv V asm cls ⟨(ZAG (V + 1) r.s).1, r.learned⟩ /\ (ZAG (V + 1) r.s).1.head = (ZAG (V + 1) r.s).1.trail.length /\ (ZAG (V + 1) r.s).1.begins = r.s.begins /\ r.s.trail.length ≤ (ZAG (V + 1) r.s).1.trail.length /\ (ZAG (V + 1) r.s).1.dead = r.s.dead := by
 obtain ⟨k, k2, _⟩ := prop_ok (V + 1) r.s h.inv (by omega)
 obtain ⟨i1, i2⟩ := k2 hn
 generalize (ZAG (V + 1) r.s).1 = s at *
 obtain ⟨t, ht⟩ := k.trail
 have hlv : ∀ x ∈ r.s.trail, s.lev x.natAbs = r.s.lev x.natAbs := fun x hx => by
  obtain ⟨p, hp⟩ := ZBy.1 hx
  have e := (List.getElem?_eq_some_iff.1 hp).1
  have hp' : s.trail[p]? = some x := by rw [ht, List.getElem?_append_left e]; exact hp
  rw [i1.lev p x hp', h.inv.lev p x hp, k.beg]
 have hlen : r.s.trail.length ≤ s.trail.length := by rw [ht, List.length_append]; omega
 refine ⟨⟨i1, h.list.trans k.same, h.rup, fun hd => ?_, fun x hx hr hle => ?_, fun j x e hj => ?_, fun j b e => ?_, ?_, ?_⟩, i2, k.beg, hlen, k.dead⟩
 ·exact (h.dead (by rw [<- k.dead]; exact hd)).monoL k.same.to
 ·obtain ⟨g1, g2⟩ := k.rea x hx hr
  exact h.dcs x g1 g2 (by rw [<- hlv x g1]; exact hle)
 ·obtain ⟨g1, g2⟩ := h.ast j x e (by rw [<- k.beg]; exact hj)
  exact ⟨by rw [ht]; exact List.mem_append_left _ g1, by rw [hlv x g1]; exact g2⟩
 ·exact h.b1 j b (by rw [<- k.beg]; exact e)
 ·show s.begins.length ≤ asm.length + s.trail.length
  rw [k.beg]
  have := h.b2
  omega
 ·show r.learned.length ≤ mu _ s.begins s.trail.length
  rw [k.beg]
  exact Nat.le_trans h.cnt (mu_mono hlen)
end
end
section
section
variable {V : Nat} {asm : List Int} {cls : List Cl} {r : RS}
theorem ZLd {s : SS} {E : Nat -> Prop} {W : Int -> List Nat} (h : Inv V s W E) {l : Nat} (hl : l < s.begins.length) : ∀ z ∈ (Zz s l).trail, (Zz s l).rea z.natAbs = s.rea z.natAbs := by
 intro z hz
 unfold Zz at hz ⊢
 rw [if_neg (by omega)] at hz ⊢
 have hd := h.tdis
 rw [<- List.take_append_drop (s.begins.getD l 0) s.trail] at hd
 refine if_neg fun q => ?_
 obtain ⟨y, hy, e⟩ := List.mem_map.1 q
 exact (List.pairwise_append.1 hd).2.2 z hz y hy e.symm
theorem ZIQ {s s' : SS} {W W' : Int -> List Nat} {E E' : Nat -> Prop} (h : Inv V s W E) (h' : Inv V s' W' E') (hb : s'.begins = s.begins) {t : List Int} (ht : s'.trail = s.trail ++ t) {x : Int} (hx : x ∈ s.trail) : s'.lev x.natAbs = s.lev x.natAbs := by
 obtain ⟨p, hp⟩ := ZBy.1 hx
 have hp' : s'.trail[p]? = some x := by rw [ht, List.getElem?_append_left (List.getElem?_eq_some_iff.1 hp).1]; exact hp
 rw [h'.lev p x hp', h.lev p x hp, hb]
theorem ZIt {s : SS} {k : Nat} (h : CInv V s k) (hb : s.begins = []) : Conf s.list fun _ => False := by
 obtain ⟨E, w, c, hI, _, _, _, hc, _, hf⟩ := h.ex
 refine ⟨c, List.mem_of_getElem? hc, fun y hy => ZDR hI _ (hf y hy) ?_⟩
 have := hI.lev_le (hf y hy)
 rw [hb] at this
 exact Nat.le_zero.1 this
theorem GInv.learn (h : GInv V asm cls r) {k : Nat} (hk : (ZAG (V + 1) r.s).2 = some k) (hb : (ZAG (V + 1) r.s).1.begins ≠ []) {o : Cl} (ho : o.Perm (ZAx (ZAG (V + 1) r.s).1 k).1) :
  GInv V asm cls ⟨Zk (Zz (ZAG (V + 1) r.s).1 (ZAx (ZAG (V + 1) r.s).1 k).2) (ZAx (ZAG (V + 1) r.s).1 k).1, r.learned ++ [o]⟩ /\
   meas V (asm.length + V) (Zk (Zz (ZAG (V + 1) r.s).1 (ZAx (ZAG (V + 1) r.s).1 k).2) (ZAx (ZAG (V + 1) r.s).1 k).1).begins (Zk (Zz (ZAG (V + 1) r.s).1 (ZAx (ZAG (V + 1) r.s).1 k).2) (ZAx (ZAG (V + 1) r.s).1 k).1).trail.length < meas V (asm.length + V) r.s.begins r.s.trail.length := by
 obtain ⟨kp, _, k3⟩ := prop_ok (V + 1) r.s h.inv (by omega)
 have hC := k3 k hk
 have hL := learn_ok hC hb
 generalize ZAx (ZAG (V + 1) r.s).1 k = cl at *
 generalize (ZAG (V + 1) r.s).1 = s at *
 obtain ⟨c, l⟩ := cl
 simp only at *
 obtain ⟨x, rest, rfl, hx, hxl, hrest, h0, h1⟩ := hL.ex
 obtain ⟨E, w, c0, hI, _, _, hbb, _⟩ := hC.ex
 have hl := hL.lt
 obtain ⟨bi, bh, bt, bb, bl, bd, bw, blo, bhi⟩ := hI.back (fun b hb _ => hbb b hb) hl
 have brea := ZLd hI hl
 have hbl : (Zz s l).begins.length = l := by rw [bb, List.length_take]; omega
 obtain ⟨li, lb, lh, ll, lt, ld, lr⟩ := bi.learned bh (x := x) (rest := rest) (bhi x hx (by omega)) (hI.trng x hx) hL.dis (fun y hy => by
  obtain ⟨q1, q2, q3⟩ := hrest y hy
  have := blo (-y) q1 (by rw [Int.natAbs_neg]; exact q3)
  rw [Int.natAbs_neg] at this
  exact ⟨this.1, by rw [this.2, hbl]; exact q3⟩) (fun q => by rw [bb, h0 q]; rfl) (fun b rr q => by
  have hbm : b ∈ rest := by rw [q]; simp
  obtain ⟨q1, q2, q3⟩ := hrest b hbm
  have := blo (-b) q1 (by rw [Int.natAbs_neg]; exact q3)
  rw [Int.natAbs_neg] at this
  rw [this.2, hbl]
  exact h1 b rr q)
 obtain ⟨t, ht⟩ := kp.trail
 have hbI := hI.bh _ (List.getElem_mem hl)
 have hbt : s.begins[l] ≤ s.trail.length := Nat.le_trans hbI hI.hl
 have htl := trail_len hI.trng hI.tdis
 have hlen : (Zk (Zz s l) (-x :: rest)).trail.length = s.begins[l] + 1 := by
  rw [lt, bt, List.length_append, List.length_take, List.length_singleton]
  omega
 have hmu : mu (V + (asm.length + V)) r.s.begins r.s.trail.length < mu (V + (asm.length + V)) (Zk (Zz s l) (-x :: rest)).begins (Zk (Zz s l) (-x :: rest)).trail.length := by
  rw [lb, bb, hlen, <- kp.beg]
  have hm := mu_mono (N := V + (asm.length + V)) (bs := s.begins) (show r.s.trail.length ≤ s.trail.length by rw [ht, List.length_append]; omega)
  have hbl2 : s.begins.length ≤ asm.length + V := by rw [kp.beg]; exact h.bl
  exact Nat.lt_of_le_of_lt hm (ZL4 hI.bs hl hbl2 htl hbt)
 have hnl : (Zk (Zz s l) (-x :: rest)).trail.length ≤ V := trail_len li.trng li.tdis
 have hlold : ∀ z ∈ r.s.trail, s.lev z.natAbs = r.s.lev z.natAbs := fun z hz => ZIQ h.inv hI kp.beg ht hz
 have hlnew : ∀ z ∈ (Zz s l).trail, (Zk (Zz s l) (-x :: rest)).lev z.natAbs = (Zz s l).lev z.natAbs := fun z hz => ZIQ bi li lb lt hz
 have hlow : ∀ z ∈ (Zz s l).trail, z ∈ s.trail := fun z hz => by rw [bt] at hz; exact List.mem_of_mem_take hz
 have hlv1 : ∀ z ∈ (Zz s l).trail, (Zz s l).lev z.natAbs = s.lev z.natAbs := fun z hz => by
  refine (blo z (hlow z hz) ?_).2
  by_cases q : s.lev z.natAbs ≤ l
  ·exact q
  ·exact absurd rfl (bhi z (hlow z hz) (by omega) z hz)
 refine ⟨⟨li, ?_, fun i d e => ?_, fun hd => ?_, fun z hz hr hle => ?_, fun j y e hj => ?_, fun j b e => ?_, ?_, ?_⟩, ?_⟩
 ·show SameC (cls ++ (r.learned ++ [o])) (Zk (Zz s l) (-x :: rest)).list
  rw [ll, bl, <- List.append_assoc]
  exact (h.list.trans kp.same).snoc ho.symm
 ·rcases app_last e with ⟨q1, q2⟩ | ⟨rfl, rfl⟩
  ·show Conf (cls ++ (r.learned ++ [o]).take i) _
   rw [List.take_append_of_le_length (by omega)]
   exact h.rup i d q2
  ·show Conf (cls ++ (r.learned ++ [d]).take r.learned.length) _
   rw [List.take_append_of_le_length (Nat.le_refl _), List.take_length]
   refine (hL.conf.mono fun z => ?_).monoL (h.list.trans kp.same).symm.to
   rintro ⟨y, hy, rfl⟩
   exact ⟨y, ho.mem_iff.2 hy, rfl⟩
 ·have hd' : r.s.dead = true := by rw [<- kp.dead, <- bd, <- ld]; exact hd
  refine (h.dead hd').monoL fun d hdm => ?_
  obtain ⟨d', d1, d2⟩ := kp.same.to d hdm
  exact ⟨d', by show d' ∈ (Zk (Zz s l) (-x :: rest)).list; rw [ll, bl]; exact List.mem_append_left _ d1, d2⟩
 ·have hz' : z ∈ (Zz s l).trail ++ [-x] := by rw [<- lt]; exact hz
  have hr' : up (Zz s l).rea (-x).natAbs (some (Zz s l).list.length) z.natAbs = none := by rw [<- lr]; exact hr
  by_cases hzx : z.natAbs = (-x).natAbs
  ·rw [hzx, up_eq] at hr'
   cases hr'
  ·rcases List.mem_append.1 hz' with q | q
   ·rw [up_ne hzx, brea z q] at hr'
    obtain ⟨g1, g2⟩ := kp.rea z (hlow z q) hr'
    refine h.dcs z g1 g2 ?_
    rw [<- hlold z g1, <- hlv1 z q, <- hlnew z q]
    exact hle
   ·rw [List.mem_singleton.1 q] at hzx
    exact absurd rfl hzx
 ·have hj' : j < l := by
   have : j < (Zk (Zz s l) (-x :: rest)).begins.length := hj
   rw [lb, hbl] at this
   exact this
  obtain ⟨g1, g2⟩ := h.ast j y e (by rw [<- kp.beg]; omega)
  have hys : y ∈ s.trail := by rw [ht]; exact List.mem_append_left _ g1
  have hyl : s.lev y.natAbs ≤ j + 1 := by rw [hlold y g1]; exact g2
  obtain ⟨q1, q2⟩ := blo y hys (by omega)
  refine ⟨by show y ∈ (Zk (Zz s l) (-x :: rest)).trail; rw [lt]; exact List.mem_append_left _ q1, ?_⟩
  show (Zk (Zz s l) (-x :: rest)).lev y.natAbs ≤ j + 1
  rw [hlnew y q1, q2]
  exact hyl
 ·have e' : (s.begins.take l)[j]? = some b := by rw [<- bb, <- lb]; exact e
  have hj := (List.getElem?_eq_some_iff.1 e').1
  rw [List.length_take] at hj
  rw [List.getElem?_take_of_lt (by omega), kp.beg] at e'
  exact h.b1 j b e'
 ·show (Zk (Zz s l) (-x :: rest)).begins.length ≤ asm.length + (Zk (Zz s l) (-x :: rest)).trail.length
  rw [lb, hbl, hlen]
  have := h.b1 l s.begins[l] (by rw [<- kp.beg]; exact List.getElem?_eq_getElem hl)
  omega
 ·show (r.learned ++ [o]).length ≤ _
  have := h.cnt
  rw [List.length_append, List.length_singleton]
  exact Nat.lt_of_le_of_lt this hmu
 ·refine ZKf hmu ?_ hnl
  rw [lb, hbl]
  have : s.begins.length ≤ asm.length + V := by rw [kp.beg]; exact h.bl
  omega
theorem GInv.decide (h : GInv V asm cls r) (hh : r.s.head = r.s.trail.length) {l : Int} (hl : l ≠ 0 /\ l.natAbs ≤ V) (hu : ∀ x ∈ r.s.trail, x.natAbs ≠ l.natAbs) (ha : ∀ x, asm[r.s.begins.length]? = some x -> x = l) :
  GInv V asm cls ⟨ZAI r.s l, r.learned⟩ /\ meas V (asm.length + V) (ZAI r.s l).begins (ZAI r.s l).trail.length < meas V (asm.length + V) r.s.begins r.s.trail.length := by
 have hi := h.inv.decide hh hl hu
 have hlen : (ZAI r.s l).trail.length = r.s.trail.length + 1 := by
  show (r.s.trail ++ [l]).length = _
  rw [List.length_append, List.length_singleton]
 have hbg : (ZAI r.s l).begins = r.s.begins ++ [r.s.trail.length] := rfl
 have hbl : (ZAI r.s l).begins.length = r.s.begins.length + 1 := by rw [hbg, List.length_append, List.length_singleton]
 have hlv : ∀ z ∈ r.s.trail, (ZAI r.s l).lev z.natAbs = r.s.lev z.natAbs := fun z hz => up_ne (hu z hz)
 have hmu : mu (V + (asm.length + V)) r.s.begins r.s.trail.length < mu (V + (asm.length + V)) (ZAI r.s l).begins (ZAI r.s l).trail.length := by
  rw [hlen, hbg, ZKh, ZF9 (Nat.le_refl _)]
  have := Nat.two_pow_pos (V + (asm.length + V) - (r.s.trail.length + lvp (r.s.begins ++ [r.s.trail.length]) r.s.trail.length))
  omega
 have hnl : (ZAI r.s l).trail.length ≤ V := trail_len hi.trng hi.tdis
 have hb2 : (ZAI r.s l).begins.length ≤ asm.length + (ZAI r.s l).trail.length := by
  rw [hbl, hlen]
  have := h.b2
  omega
 refine ⟨⟨hi, h.list, h.rup, h.dead, fun z hz hr hle => ?_, fun j y e hj => ?_, fun j b e => ?_, hb2, Nat.le_trans h.cnt (Nat.le_of_lt hmu)⟩, ZKf hmu (by omega) hnl⟩
 ·rcases List.mem_append.1 hz with q | q
  ·exact h.dcs z q hr (by rw [<- hlv z q]; exact hle)
  ·rw [List.mem_singleton.1 q] at hle ⊢
   have e1 : (ZAI r.s l).lev l.natAbs = (r.s.begins ++ [r.s.trail.length]).length := up_eq _ _ _
   have e2 : (ZAI r.s l).lev l.natAbs ≤ asm.length := hle
   rw [e1, List.length_append, List.length_singleton] at e2
   have hlt : r.s.begins.length < asm.length := by omega
   have := ha _ (List.getElem?_eq_getElem hlt)
   rw [<- this]
   exact List.getElem_mem hlt
 ·by_cases hjb : j < r.s.begins.length
  ·obtain ⟨g1, g2⟩ := h.ast j y e hjb
   exact ⟨List.mem_append_left _ g1, by show (ZAI r.s l).lev y.natAbs ≤ j + 1; rw [hlv y g1]; exact g2⟩
  ·have hj' : j < r.s.begins.length + 1 := by rw [<- hbl]; exact hj
   have hje : j = r.s.begins.length := by omega
   subst hje
   have := ha y e
   subst this
   refine ⟨List.mem_append_right _ (List.mem_singleton.2 rfl), ?_⟩
   have e1 : (ZAI r.s y).lev y.natAbs = (r.s.begins ++ [r.s.trail.length]).length := up_eq _ _ _
   show (ZAI r.s y).lev y.natAbs ≤ _
   rw [e1, List.length_append, List.length_singleton]
   exact Nat.le_refl _
 ·have e' : (r.s.begins ++ [r.s.trail.length])[j]? = some b := e
  by_cases hjb : j < r.s.begins.length
  ·rw [List.getElem?_append_left hjb] at e'
   exact h.b1 j b e'
  ·have hj1 := (List.getElem?_eq_some_iff.1 e').1
   rw [List.length_append, List.length_singleton] at hj1
   have hje : j = r.s.begins.length := by omega
   subst hje
   rw [List.getElem?_append_right (Nat.le_refl _), Nat.sub_self] at e'
   have : r.s.trail.length = b := by simpa using e'
   rw [<- this]
   exact h.b2
theorem GInv.level (h : GInv V asm cls r) (hh : r.s.head = r.s.trail.length) {x : Int} (ha : asm[r.s.begins.length]? = some x) (hx : x ∈ r.s.trail) :
  GInv V asm cls ⟨ZCH r.s, r.learned⟩ /\ meas V (asm.length + V) (ZCH r.s).begins (ZCH r.s).trail.length < meas V (asm.length + V) r.s.begins r.s.trail.length := by
 have hi := h.inv.level hh
 have hbg : (ZCH r.s).begins = r.s.begins ++ [r.s.trail.length] := rfl
 have hbl : (ZCH r.s).begins.length = r.s.begins.length + 1 := by rw [hbg, List.length_append, List.length_singleton]
 have hlt := (List.getElem?_eq_some_iff.1 ha).1
 refine ⟨⟨hi, h.list, h.rup, h.dead, h.dcs, fun j y e hj => ?_, fun j b e => ?_, ?_, ?_⟩, ?_⟩
 ·by_cases hjb : j < r.s.begins.length
  ·exact h.ast j y e hjb
  ·have hj' : j < r.s.begins.length + 1 := by rw [<- hbl]; exact hj
   have hje : j = r.s.begins.length := by omega
   subst hje
   rw [ha] at e
   cases e
   exact ⟨hx, Nat.le_succ_of_le (h.inv.lev_le hx)⟩
 ·have e' : (r.s.begins ++ [r.s.trail.length])[j]? = some b := e
  by_cases hjb : j < r.s.begins.length
  ·rw [List.getElem?_append_left hjb] at e'
   exact h.b1 j b e'
  ·have hj1 := (List.getElem?_eq_some_iff.1 e').1
   rw [List.length_append, List.length_singleton] at hj1
   have hje : j = r.s.begins.length := by omega
   subst hje
   rw [List.getElem?_append_right (Nat.le_refl _), Nat.sub_self] at e'
   have : r.s.trail.length = b := by simpa using e'
   rw [<- this]
   exact h.b2
 ·show (ZCH r.s).begins.length ≤ asm.length + r.s.trail.length
  omega
 ·show r.learned.length ≤ mu _ (r.s.begins ++ [r.s.trail.length]) r.s.trail.length
  rw [ZF9 (Nat.le_refl _)]
  exact h.cnt
 ·show meas V (asm.length + V) (r.s.begins ++ [r.s.trail.length]) r.s.trail.length < _
  exact ZI4 (Nat.le_refl _) (by omega)
theorem ZLX {s : SS} (h : Inv V s s.watch fun _ => False) (hb : s.begins = []) (hd : s.dead = true -> Conf s.list fun _ => False) (c : Cl) : (ZA7 s c).dead = true -> Conf (s.list ++ [c]) fun _ => False := fun q => by
 have hgrow : s.dead = true -> Conf (s.list ++ [c]) fun _ => False := fun q => (hd q).monoL fun d hdm => ⟨d, List.mem_append_left _ hdm, List.Perm.refl _⟩
 match c, q, hgrow with
 | [], _, _ => exact ⟨[], List.mem_append_right _ (by simp), fun y hy => by cases hy⟩
 | [a], q, hgrow =>
  by_cases h1 : s.val (-a) = true
  ·have ham := (h.val _).1 h1
   refine ⟨[a], List.mem_append_right _ (by simp), fun y hy => ?_⟩
   rw [List.mem_singleton.1 hy]
   have hl := h.lev_le ham
   rw [hb] at hl
   have hD := ZDR h (fun _ => False) ham (Nat.le_zero.1 hl)
   have go : ∀ x, Der s.list (fun _ => False) x -> Der (s.list ++ [[a]]) (fun _ => False) x := fun x hx => by
    induction hx with
    | base q => exact .base q
    | step h1 h2 _ ih => exact .step (List.mem_append_left _ h1) h2 ih
   exact go _ hD
  ·refine hgrow ?_
   have e : (ZA7 s [a]).dead = s.dead := by
    unfold ZA7
    simp only
    rw [if_neg h1]
    split <;> rfl
   rw [<- e]; exact q
 | a :: b :: r, q, hgrow => exact hgrow q
theorem ZJd {asm : List Int} {cls : List Cl} (hr : ∀ c ∈ cls, (∀ x ∈ c, x ≠ 0 /\ x.natAbs ≤ V) /\ c.Pairwise fun x y => x.natAbs ≠ y.natAbs) : GInv V asm cls ⟨ZAO cls, []⟩ := by
 have go : ∀ (l : List Cl) (s : SS), (∀ c ∈ l, (∀ x ∈ c, x ≠ 0 /\ x.natAbs ≤ V) /\ c.Pairwise fun x y => x.natAbs ≠ y.natAbs) -> (Inv V s s.watch fun _ => False) -> s.begins = [] -> s.head = 0 -> (s.dead = true -> Conf s.list fun _ => False) -> (∀ x ∈ s.trail, s.rea x.natAbs ≠ none) ->
   ((l.foldl ZA7 s).dead = true -> Conf (l.foldl ZA7 s).list fun _ => False) := by
  intro l
  induction l with
  | nil => intro s _ _ _ _ hd _; exact hd
  | cons c l ih =>
   intro s hr h hb hh hd hn
   obtain ⟨a1, a2, a3, a4, _⟩ := h.add hb (hr c (by simp)).1 (hr c (by simp)).2 fun _ => hh
   rw [List.foldl_cons]
   have hn' : ∀ x ∈ (ZA7 s c).trail, (ZA7 s c).rea x.natAbs ≠ none := fun x hx q => by
    obtain ⟨p, hp⟩ := ZBy.1 hx
    have := a1.dec p x hp q
    rw [a2] at this
    cases this
   exact ih (ZA7 s c) (fun d hd => hr d (by simp [hd])) a1 a2 (a3.trans hh) (by rw [a4]; exact ZLX h hb hd c) hn'
 obtain ⟨a1, a2, a3, a4⟩ := begin_ok hr
 have a5 := go cls ZBX hr (ZH3 V) rfl rfl (fun q => by cases q) (fun x hx => by cases hx)
 refine ⟨a1, ?_, fun i c e => by simp at e, a5, fun x hx hrx _ => ?_, fun j x e hj => ?_, fun j b e => ?_, ?_, Nat.zero_le _⟩
 ·show SameC (cls ++ []) (ZAO cls).list
  rw [List.append_nil, a4]
  exact SameC.refl _
 ·obtain ⟨p, hp⟩ := ZBy.1 hx
  have hm : p ∈ (ZAO cls).begins := a1.dec p x hp hrx
  rw [a2] at hm
  cases hm
 ·have hj' : j < (ZAO cls).begins.length := hj
  rw [a2] at hj'
  exact absurd hj' (Nat.not_lt_zero _)
 ·have e' : (ZAO cls).begins[j]? = some b := e
  rw [a2] at e'
  simp at e'
 ·show (ZAO cls).begins.length ≤ _
  rw [a2]
  exact Nat.zero_le _
end
end
end Go.Proofs.YtjmignmnlpamjaaGreat.S43
