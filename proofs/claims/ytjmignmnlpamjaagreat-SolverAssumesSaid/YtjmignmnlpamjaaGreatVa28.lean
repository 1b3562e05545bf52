/- Part 28: walks by contracts, and plain laws. -/
import Derived.Test.YtjmignmnlpamjaaGreatVa27
set_option linter.unusedVariables false
set_option linter.unusedSimpArgs false
set_option linter.unusedSectionVars false
set_option maxRecDepth 100000
set_option maxHeartbeats 4000000
namespace Go.Proofs.YtjmignmnlpamjaaGreat
section
open Go.RowKit
open S43 (SS LS up ZAx ZMO ZAs RInv Inv CInv lk0 lk1)
section
variable {P : Program} {f : FuncId} {fn : Func} {c : Code} {t u : Tmp} {ds : List Dat} {hp1 : List HObj} {K : Dat -> List HObj -> Prop}
def ZN8 (t u : Nat) (K : Dat -> List HObj -> Prop) (hp : List HObj) : ZAb := fun e f q => (match e with | .normal | .ret => True | _ => False) /\ ∃ d d' hp2, f[t]? = some d /\ f[u]? = some d' /\ q = hp2 ++ hp /\ K (dT [d, d']) hp2
theorem ZD2 (hf : P.funcs[f]? = some fn) (hb : fn.body = some c) (hr : fn.results = #[.tmp t, .tmp u])
  (h : ∀ hp, WC P (ZN8 t u K hp) c (ds ++ List.replicate (fn.ntmps - ds.length) (dX undef)) (hp1 ++ hp)) : CallC P f ds hp1 K := ⟨fun P0 B w0 hp vs W hh hl hv => by
 refine calls_of_wp hf hb ?_
 have hf0 := ZBw (m := fn.ntmps - ds.length) hl hv
 have hsz : vs.toArray.size = ds.length := by simp [hl]
 rw [hsz]
 refine Code.wp_mono (fun e a' w' ⟨f', p', q, hh', hf'⟩ => ?_) ((h hp).on hh hf0)
 obtain ⟨hx, d, d', hp2, hd, hd', rfl, hk'⟩ := q
 have hv := hf'.rd t d hd
 have hv' := hf'.rd u d' hd'
 have hT : (dT [d, d']).rd (Imm P0 B (hp2 ++ hp)) w' (.tuple #[a'.tmps.getD t undef, a'.tmps.getD u undef]) := ⟨[a'.tmps.getD t undef, a'.tmps.getD u undef], rfl, rfl, fun i e x he hx => by
  match i, he, hx with
  | 0, he, hx => cases he; cases hx; exact hv
  | 1, he, hx => cases he; cases hx; exact hv'⟩
 cases e with
 | normal => exact ⟨hf'.defers, _, results_tmp2 hr _ _ _, _, _, hp2, rfl, hk', hh', hT⟩
 | ret => exact ⟨hf'.defers, _, results_tmp2 hr _ _ _, _, _, hp2, rfl, hk', hh', hT⟩
 | _ => exact hx.elim⟩
end
section
variable {P : Program} {ops : Array Oper} {hp : List HObj} {fr : List Dat} {Q : ZAb} {rest : List Oper} {dst : Option Tmp} {ty : TypeId} {ps : String} {af : Array Edge} {t e : TypeId} {z : Value} {bytes : Nat}
theorem ZM2 {x : Operand} {n : Int} (E : ElT P t e 1 z bytes false) (hx : OpD fr x (dI n)) (h : ∀ v, WL P ops Q rest (ZB fr dst (dX v)) (ZS v e RI [n] :: hp)) :
  WL P ops Q (⟨dst, .buildSlice t 1 #[(0, x)], ty, ps, af, none⟩ :: rest) fr hp := by
 refine WL.of fun P0 B w0 w a hh hf => ?_
 obtain ⟨css, hr, hcl, hcn, hel⟩ := ZCu (ops := ops) (dst := dst) (ty := ty) (ps := ps) (af := af) (g := none) (R := RI) (as1 := [n]) E (agg := false) (Zt hx Zy) rfl rfl (fun _ => Zf) (by simp) hh (hf.on _)
 match css, hcl with
 | [cs], _ =>
  obtain ⟨u, hu, hR⟩ := hel 0 cs n rfl rfl
  simp only [Bool.false_eq_true, if_false] at hu
  subst hu
  refine Z6 rfl hr ?_
  have hx := ZF w (.cells [[u]].flatten.toArray e)
  have hob : ∀ k, (ZS (.slice (some ⟨w.heap.size, 0, none⟩) 1 1) e RI [n]).blk = some k -> w.heap.size ≤ k /\ k < (w.alloc (.cells [[u]].flatten.toArray e)).heap.size := fun k hk => by
   cases hk
   exact ⟨Nat.le_refl _, by simp⟩
  refine (h _).on (hh.push (o := ZS (.slice (some ⟨w.heap.size, 0, none⟩) 1 1) e RI [n]) hx hob ⟨[u], rfl, ⟨rfl, .inr ⟨w.heap.size, 1, [u].toArray, rfl, Nat.zero_le _, ZAT w _, Nat.le_refl _, by simp only [maxLen]; decide, rfl, rfl⟩⟩, fun k h h' => ?_⟩) (Fr.put (hf.mono fun d _ hd => ZAZ hx (fun k hk => (hob k hk).1) hd) rfl)
  have hk : k = 0 := by simpa using h
  subst hk
  exact ⟨(hcn [u] (by simp)).2 u (by simp), hR⟩
end
theorem ZIc {fr : List Dat} {x y z u : Operand} {v1 v2 v3 v4 : Value} (h1 : OpD fr x (dX v1)) (h2 : OpD fr y (dX v2)) (h3 : OpD fr z (dX v3)) (h4 : OpD fr u (dX v4)) : ArgsX fr [x, y, z, u] [v1, v2, v3, v4] := ⟨rfl, fun i y u h1' h2' => by
 match i, h1', h2' with
 | 0, a, b => cases a; cases b; exact h1
 | 1, a, b => cases a; cases b; exact h2
 | 2, a, b => cases a; cases b; exact h3
 | 3, a, b => cases a; cases b; exact h4⟩
theorem ZLS {P : Program} {ops : Array Oper} {hp : List HObj} {fr : List Dat} {Q : ZAb} {rest : List Oper} {dst2 : Option Tmp} {ty2 : TypeId} {ps2 : String} {af2 : Array Edge} {t e : TypeId} {z : Value} {bytes : Nat} {ag : Bool} {s : Operand} {xs ys : List Int} {v u : Value} {i : Nat} (y : Nat) (E : ElT P t e 1 z bytes ag) (hs : OpD (fr.set y (dS ZW ys)) s (dX v)) (hi : (ZS v e RI xs :: hp)[i + 0]? = some (ZS u e RI ys)) (hy : fr[y]? = some (dX u)) (hby : 0 < bytes)
  (hlen : (xs.length + ys.length) * bytes ≤ 140737488355328) (h : ∀ v', WL P ops Q rest (ZB (fr.set y (dS ZW ys)) dst2 (dX v')) (ZS v' e RI (xs ++ ys) :: hp.eraseIdx (i - 1))) (hi0 : 0 < i := by decide) :
  WL P ops Q (⟨dst2, .call { callee := .builtin .append, args := #[s, .tmp y], argTypes := #[t, t] }, ty2, ps2, af2, none⟩ :: rest) fr (ZS v e RI xs :: hp) := by
 obtain ⟨j, rfl⟩ : ∃ j, i = j + 1 := ⟨i - 1, by omega⟩
 refine WL.perm (ZAQ hi) (ZCQ hy ?_)
 have hl : y < fr.length := (List.getElem?_eq_some_iff.1 hy).1
 exact WL.app1 (R := RI) (_gR := inferInstance) E hs (OpD.t (by rw [List.getElem?_set]; simp [hl])) hby hlen h
theorem ZNg {vn K S L B c7 c8 c6 : HObj} {hp : List HObj} : (vn :: K :: S :: L :: B :: c7 :: c8 :: c6 :: hp).Perm (K :: S :: L :: B :: c7 :: c8 :: c6 :: vn :: hp) := (List.perm_middle (l₁ := [K, S, L, B, c7, c8, c6])).symm
theorem ZEu {ι : Type} (A : List HObj) {L : List ι} {u : ι -> Value} {e : TypeId} {c : ι -> List Int} {i : ι} {xs : List Int} {B : List HObj} (h : i ∈ L) (hc : c i = xs) : ZS (u i) e RI xs ∈ A ++ (gO L u e c ++ B) := hc ▸ List.mem_append.2 (.inr (List.mem_append.2 (.inl (ZMb h))))
theorem ZKo {c8 c7 G O c6 K S V L R T B : HObj} {hp : List HObj} : (c8 :: c7 :: G :: O :: c6 :: K :: S :: V :: L :: R :: T :: B :: hp).Perm (K :: S :: L :: B :: c7 :: c8 :: c6 :: O :: G :: V :: R :: T :: hp) :=
 (ZAQ (i := 5) rfl).trans (List.Perm.cons _ ((ZAQ (i := 5) rfl).trans (List.Perm.cons _ ((ZAQ (i := 6) rfl).trans (List.Perm.cons _ ((ZAQ (i := 8) rfl).trans (List.Perm.cons _ ((ZAQ (i := 1) rfl).trans (List.Perm.cons _ ((ZAQ (i := 0) rfl).trans (List.Perm.cons _ ((ZAQ (i := 2) rfl).trans (List.Perm.cons _ ((ZAQ (i := 1) rfl).trans (List.Perm.cons _ ((ZAQ (i := 0) rfl).trans (List.Perm.cons _ ((ZAQ (i := 0) rfl).trans (List.Perm.cons _ ((ZAQ (i := 0) rfl).trans (List.Perm.cons _ ((ZAQ (i := 0) rfl).trans (List.Perm.cons _ (List.Perm.refl _))))))))))))))))))))))))
theorem ZFj {V : Nat} {s : SS} {W : Int -> List Nat} {E : Nat -> Prop} (h : Inv V s W E) {p : Nat} {t : LS} (r : RInv s p t) : t.out.length ≤ V /\ t.opn ≤ V := by
 constructor
 ·refine S43.trail_len (fun y hy => ?_) r.dis
  have := h.trng _ (r.out y hy).1
  rw [Int.natAbs_neg] at this
  omega
 ·rw [r.opn]
  unfold S43.cnt
  refine Nat.le_trans (List.length_filter_le _ _) ?_
  rw [List.length_take]
  have := h.toInv0.tlen
  omega
theorem tzIs : TyZ Tryz.prog 25 (.slice none 0 0) := ⟨by kernel_rfl⟩
theorem tzMb : TyZ Tryz.prog 101 (.map none) := ⟨by kernel_rfl⟩
theorem tzI : TyZ Tryz.prog 3 (.int .i64 0) := ⟨by kernel_rfl⟩
abbrev mkL (t : LS) (o : List Int) : LS := { seen := t.seen, out := o, opn := t.opn - 1 }
theorem ZHb {c : List Int} {x : Int} {j : Nat} (h : j < c.length) : (c.take (j + 1)).filter (fun y => decide (y ≠ x)) = (c.take j).filter (fun y => decide (y ≠ x)) ++ if c[j] = x then [] else [c[j]] := by
 rw [List.take_succ_eq_append_getElem h, List.filter_append]
 congr 1
 rw [List.filter_cons, List.filter_nil]
 by_cases e : c[j] = x
 ·rw [if_pos e, if_neg (by simp [e])]
 ·rw [if_neg e, if_pos (by simp [e])]
theorem ZMP {o : List Int} {i : Nat} {y z : Int} (hi : o.getD i 0 = y) (h1 : o.getD 1 0 = z) : (o.set i (o.getD 1 0)).set 1 (o.getD i 0) = (o.set 1 y).set i z := by
 rw [hi, h1]
 by_cases e : i = 1
 ·subst e
  have : y = z := hi.symm.trans h1
  rw [this]
 ·exact List.set_comm _ _ e
theorem ZFk {P : Program} {ops : Array Oper} {hp : List HObj} {fr : List Dat} {dst : Option Tmp} {ty : TypeId} {ps : String} {af : Array Edge} {g : Option (Nat × Bool)} {T T2 : TypeId} {x y : Operand} {p q : Int} {b : Bool} (h : decide (q < p) = b) (hx : OpD fr x (dI p)) (hy : OpD fr y (dI q)) : SY P ops hp ⟨dst, .binOp .gtr T x y T2, ty, ps, af, g⟩ fr (dB b) := h ▸ SY.gtr hx hy
abbrev lrO (X : Lay) (V : Nat) (s : SS) (v2 : Value) (b6 b7 b8 bm : Nat) (vo : Value) (t : LS) (B : List HObj) : List HObj :=
 ZHN X v2 :: oS X V s :: oL X s :: oB X s :: ZAB b7 101 1 false (dX (.map (some bm))) :: ZAB b8 tI 1 false (dI (t.opn : Int)) :: ZAB b6 25 1 false (dX vo) :: ZS vo tI RI t.out :: hG bm kvI ZAF vvB (ZDq t.seen) :: oV X s :: oR X s :: oT X s :: oW X :: oC X s :: (ZEI X s ++ (ZEJ X V s ++ B))
theorem ZMy {ops : Array Oper} {hp : List HObj} {fr : List Dat} {dst : Option Tmp} {ty : TypeId} {ps : String} {af : Array Edge} {g : Option (Nat × Bool)} {b : Nat} {x y : Operand} {rea : Nat -> Option Nat} {l r : Nat} (hu : rea l = some r) (hx : OpD fr x (dX (.map (some b)))) (hm : hG b kvI ZAF kvI (ZHO rea) ∈ hp) (hy : OpD fr y (dI (l : Int))) (ho : ZAF (l : Int)) :
  SY Tryz.prog ops hp ⟨dst, .lookup 87 x y false, ty, ps, af, g⟩ fr (dI (r : Int)) := by
 have := ZMx (ops := ops) (dst := dst) (ty := ty) (ps := ps) (af := af) (g := g) hx hm hy ho
 rwa [hu] at this
set_option maxHeartbeats 32000000 in
theorem ZNT (X : Lay) (V : Nat) (s : SS) (k : Nat) (hV : V ≤ 100000) (hC : CInv V s k) (hb : s.begins ≠ []) (hs : s.list.length ≤ 1000000000000) :
  CallC Tryz.prog 73 ([dX (ZDZ X), dI (k : Int)] ++ ([] : List Value).map dX) (ZCR X V s) (fun d hp2 => ∃ v v2 b6 b7 b8 bm t, t.out = (ZAx s k).1 /\ d = dT [dX v, dI (((ZAx s k).2 : Nat) : Int)] /\ hp2 = lrO X V s v2 b6 b7 b8 bm v t []) := by
 obtain ⟨W, E, c, hI, hck, hcf, r0, ho0⟩ := S43.learn_start hC hb
 refine ZD2 Tryz.func73 rfl rfl (fun hp => ?_)
 simp only [Tryz.ntmps73, List.length_cons, List.length_nil, List.length_append, List.length_map, Nat.reduceAdd, Nat.reduceSub, List.replicate_succ, List.replicate_zero, List.cons_append, List.nil_append, List.map_cons, List.map_nil, List.append_assoc]
 rw [ZEk]
 simp only [core, List.cons_append, List.nil_append]
 (repeat' (first |  (refine WC.only 1 (Halt.go ?_)) | ((first | apply WL.opN | apply WD.opN); exact yF; dsimp only [ZB, z0, z1]) | refine WL.nil ?_ | refine ZA fun Kx hK => ?_ | (refine hK _ _ ?_; clear hK) | refine WC.region ?_ | ((first | apply ZJ | apply WD.op); (focus (first | exact wN | (apply SYG.yes; (exact wY); ((first | (apply SY.box; (exact oD); (exact hD)) | fail); all_goals infer_instance)))); dsimp only [ZB, z0, z1])))
 refine ⟨?_⟩
 refine WC.pin 2 rfl fun v2 => ?_
 dsimp only [z0, z1]
 (repeat' (first |  (refine WC.only 5 (WC.perm ZKo (Halt.go ?_))) | ((first | apply WL.opN | apply WD.opN); exact yF; dsimp only [ZB, z0, z1]) | refine WL.nil ?_ | refine ZA fun Kx hK => ?_ | (refine hK _ _ ?_; clear hK) | refine WC.region ?_ |  (refine WL.alloc (T := 25) tzIs (Z8 rfl) fun b6 => ZDN tI RI ?_; dsimp only [ZB, z0, z1]) |  (refine ZBd kvI ZAF vvB (ZDq fun _ => false) (fun _ => rfl) fun bm => ?_; dsimp only [ZB, z0, z1]) |  (refine WL.alloc (T := 101) tzMb (Z8 rfl) fun b7 => ?_; dsimp only [ZB, z0, z1]) |  (refine ZK (ZAD tyF (OpD.t rfl) (OpD.t rfl) (Z8 rfl)) fun _ => ?_; dsimp only [ZB, z0, z1]) |  (refine WL.alloc (T := 3) tzI (Z8 rfl) fun b8 => ?_; dsimp only [ZB, z0, z1]) |  (refine ZK (ZAD tyI (OpD.t rfl) Zl Zf) fun _ => ?_; dsimp only [ZB, z0, z1]) | ((first | apply ZJ | apply WD.op); (focus (first | exact wN | (apply SYG.yes; (exact wY); ((first | (exact ZBJ (vs := [ZDE b7, v2, ZDE b8, ZDE b6]) (ZIc (OpD.t rfl) (OpD.t rfl) (OpD.t rfl) (OpD.t rfl))) | fail); all_goals infer_instance)))); dsimp only [ZB, z0, z1])))
 refine ⟨?_⟩
 have eN : ((List.range s.list.length).map X.u).length = s.list.length := by simp
 have hku : ∀ (j : Nat) (h : j < ((List.range s.list.length).map X.u).length), ((List.range s.list.length).map X.u)[j] = X.u j := fun j h => by simp
 have hkl : k < s.list.length := (List.getElem?_eq_some_iff.1 hck).1
 have hkr : k ∈ List.range s.list.length := List.mem_range.2 hkl
 have hkN : k < ((List.range s.list.length).map X.u).length := by rw [eN]; exact hkl
 have hckd : s.list.getD k [] = c := by rw [List.getD_eq_getElem?_getD, hck]; rfl
 have htl := hI.toInv0.tlen
 have hcl : c.length ≤ V := S43.trail_len (hI.rng c (List.mem_of_getElem? hck)) (hI.dis c (List.mem_of_getElem? hck))
 have hlr : ZAx s k = ZMO s (S43.resolve s s.trail.length (c.foldl (S43.look s) lk0)) := by unfold ZAx; rw [hckd]
 (repeat' (first | ((first | apply WL.opN | apply WD.opN); exact yF; dsimp only [ZB, z0, z1]) | refine WL.nil ?_ | (refine hK _ _ ?_; clear hK) | refine WC.region ?_ | ((first | apply ZJ | apply WD.op); (focus (first | exact wN | (apply SYG.yes; (exact wY); ((first | (exact Zv tyC (OpD.t rfl) (mAt 0 rfl)) | (exact ZH (OpD.t rfl)) | (refine ZM ZAz (OpD.t rfl) (by decide)) | (apply ZI; exact ZCz; exact OpD.t rfl; exact mAt 1 rfl; rfl) | (exact Zr ZB7 (OpD.t rfl) (mAt 13 rfl) (OpD.t rfl) rfl hkN) | (exact ZDM ZAl (OpD.t rfl) (mAt 13 rfl) hkN (hku k hkN)) | (exact ZAu rfl (OpD.t rfl) (ZEu [_, _, _, _, _, _, _, _, _, _, _, _, _, _] hkr hckd) elI.unt) | fail); all_goals infer_instance)))); dsimp only [ZB, z0, z1]) | refine WC.block ?_))
 (refine ZP (X := Nat × Value) (fun x => [(29, dI (x.1 : Int)), (11, dA), (30, dA), (31, dA), (32, dA), (33, dA), (34, dA), (35, dA), (36, dA)]) (fun x => (lrO X V s v2 b6 b7 b8 bm x.2 ((c.take x.1).foldl (S43.look s) lk0) hp)) (fun x => c.length - x.1) (fun x => x.1 ≤ c.length) (0, ZCX) ?start ?frame0 ?objs0 ?round)
 case start => exact Nat.zero_le _
 case frame0 => ((try dsimp only [ZX, z0, z1]); repeat (first | exact LeF.nil | refine ZG (k := ?_)))
 case objs0 => rfl
 case round =>
  rintro ⟨i, vo⟩ hi
  simp only at hi
  dsimp only [ZX, z0, z1]
  have hpre := S43.looks_ok hI (c.take i) lk0 (S43.lk0_inv s.trail.length) (fun y hy => by rw [List.take_length]; exact hcf y (List.take_subset _ _ hy))
  obtain ⟨hb1, hb2⟩ := ZFj hI hpre.1
  by_cases hil : i < c.length
  ·have hle : (i : Int) < (c.length : Int) := by omega
   have hx := hI.rng c (List.mem_of_getElem? hck) _ (List.getElem_mem hil)
   have hlk := ZMf X V s v2 b6 b7 b8 bm vo ((c.take i).foldl (S43.look s) lk0) c[i] (by omega) (by omega) (by omega)
   ((repeat' (first | ((first | apply WL.opN | apply WD.opN); exact yF; dsimp only [ZB, z0, z1]) | refine WL.nil ?_ | refine ZA fun Kx hK => ?_ | (refine hK _ _ ?_; clear hK) | refine WC.region ?_ |  (refine WL.callC (hp1 := lkO X V s v2 b6 b7 b8 bm vo ((c.take i).foldl (S43.look s) lk0)) (caps := [ZDE b7, v2, ZDE b8, ZDE b6]) hlk Tryz.call102 (OpD.t rfl) (ArgsD.cons (OpD.t rfl) ArgsD.nil) ?_; rintro d' hp2 ⟨vo', rfl⟩; dsimp only [ZB, z0, z1, List.cons_append, List.nil_append]) | ((first | apply ZJ | apply WD.op); (focus (first | exact wN | (apply SYG.yes; (exact wY); ((first | (exact Zr elI (OpD.t rfl) (ZEu [_, _, _, _, _, _, _, _, _, _, _, _, _, _] hkr hckd) (OpD.t rfl) rfl hil) | (exact Zh tyI (OpD.t rfl) (ZEu [_, _, _, _, _, _, _, _, _, _, _, _, _, _] hkr hckd) hil rfl) | ((first | apply SY.move | apply SY.assign | apply SY.lss | apply SY.gtr | apply SY.eql | apply SY.neq | apply SY.not) <;> (exact oD)) | ((first | apply SY.add | apply SY.sub) <;> first | exact oD | omega) | fail); all_goals infer_instance)))); dsimp only [ZB, z0, z1]) | (apply ZC; (exact oD); all_goals (intro h; try exact xD)) | refine WC.skip ?_ | refine WC.block ?_ | refine ThenD.n ?_)); all_goals (first | ((repeat clear hK); (repeat clear Kx))))
   all_goals try (exfalso; first | contradiction | omega)
   rw [<- S43.look_take hil]
   (refine ⟨(i + 1, vo'), ?_, by first | omega | (simp only; omega), rfl, ?_⟩; rotate_left; ((try dsimp only [ZX, z0, z1]); repeat (first | exact LeF.nil | refine ZG (k := ?_))); (try dsimp only))
   omega
  ·obtain rfl : i = c.length := by omega
   have hle : ¬ (c.length : Int) < (c.length : Int) := by omega
   rw [List.take_length]
   obtain ⟨R, hR⟩ : ∃ R, S43.resolve s s.trail.length (c.foldl (S43.look s) lk0) = R := ⟨_, rfl⟩
   (repeat' (first | ((first | apply WL.opN | apply WD.opN); exact yF; dsimp only [ZB, z0, z1]) | refine WL.nil ?_ | refine ZA fun Kx hK => ?_ | (refine hK _ _ ?_; clear hK) | (refine Kont.skip ?_; clear hK) | refine WC.region ?_ | ((first | apply ZJ | apply WD.op); (focus (first | exact wN | (apply SYG.yes; (exact wY); ((first | (exact Zv tyC (OpD.t rfl) (mAt 0 rfl)) | (exact ZH (OpD.t rfl)) | (refine ZM ZAz (OpD.t rfl) (by decide)) | (apply ZI; exact ZAl; exact OpD.t rfl; exact mAt 1 rfl; rfl) | (apply Z3; exact OpD.t rfl; exact mAt 11 rfl; exact elI.unt) | ((first | apply SY.move | apply SY.assign | apply SY.lss | apply SY.gtr | apply SY.eql | apply SY.neq | apply SY.not) <;> (exact oD)) | ((first | apply SY.add | apply SY.sub) <;> first | exact oD | omega) | fail); all_goals infer_instance)))); dsimp only [ZB, z0, z1]) | (apply ZC; (exact oD); all_goals (intro h; try exact xD)) | refine WC.exit ?_ | refine WC.block ?_))
   all_goals try (exfalso; first | contradiction | omega)
   (refine ZP (X := Nat × LS × Value) (fun x => [(12, dI ((x.1 : Int) - 1)), (13, dA), (15, dA), (43, dA), (44, dA), (45, dA), (46, dA), (47, dA), (48, dA), (49, dA), (50, dA), (51, dA), (52, dA), (53, dA), (54, dA), (55, dA), (56, dA), (57, dA), (58, dA), (59, dA), (60, dA), (61, dA), (62, dA), (63, dA), (64, dA), (65, dA), (66, dA), (67, dA), (68, dA), (69, dA), (70, dA), (71, dA), (72, dA), (73, dA), (74, dA), (75, dA), (76, dA), (77, dA), (78, dA), (79, dA), (80, dA), (81, dA), (82, dA), (83, dA), (84, dA), (85, dA), (86, dA), (87, dA), (88, dA), (89, dA), (90, dA), (91, dA), (92, dA), (93, dA), (94, dA), (95, dA), (96, dA), (97, dA), (98, dA)]) (fun x => (lrO X V s v2 b6 b7 b8 bm x.2.2 x.2.1 hp)) (fun x => x.1) (fun x => RInv s x.1 x.2.1 /\ 1 ≤ x.2.1.opn /\ x.1 ≤ s.trail.length /\ S43.resolve s x.1 x.2.1 = R) (s.trail.length, c.foldl (S43.look s) lk0, vo) ?start ?frame0 ?objs0 ?round)
   case start => exact ⟨r0, ho0, Nat.le_refl _, hR⟩
   case frame0 => ((try dsimp only [ZX, z0, z1]); repeat (first | exact LeF.nil | refine ZG (k := ?_)))
   case objs0 => rfl
   case round =>
    rintro ⟨p, t, vo1⟩ ⟨rp, ho1, hpl, hRp⟩
    simp only at rp ho1 hpl hRp
    dsimp only [ZX, z0, z1]
    (repeat' (first | refine ZA fun Kx hK => ?_ | refine WC.block ?_))
    (refine ZP (X := Nat) (fun x => [(12, dI ((x : Int) - 1)), (43, dA), (44, dA), (45, dA), (46, dA), (47, dA), (48, dA), (49, dA), (50, dA), (51, dA), (52, dA), (53, dA), (54, dA), (55, dA)]) (fun x => (lrO X V s v2 b6 b7 b8 bm vo1 t hp)) (fun x => x) (fun x => RInv s x t /\ x ≤ p /\ S43.resolve s x t = R) p ?start ?frame0 ?objs0 ?round)
    case start => exact ⟨rp, Nat.le_refl _, hRp⟩
    case frame0 => ((try dsimp only [ZX, z0, z1]); repeat (first | exact LeF.nil | refine ZG (k := ?_)))
    case objs0 => rfl
    case round =>
     rintro q ⟨rq, hqp, hRq⟩
     dsimp only [ZX, z0, z1]
     have hq0 := RInv.pos rq ho1
     obtain ⟨q, rfl⟩ : ∃ q', q = q' + 1 := ⟨q - 1, by omega⟩
     have hqt : q < s.trail.length := by omega
     obtain ⟨x, hx⟩ : ∃ x, s.trail[q] = x := ⟨_, rfl⟩
     have hxe : s.trail[q]? = some x := by rw [List.getElem?_eq_getElem hqt, hx]
     have hxr := hI.trng x (by rw [<- hx]; exact List.getElem_mem hqt)
     have hqi : ((q + 1 : Nat) : Int) - 1 = (q : Int) := by omega
     have hvx := ZAa x (by omega)
     have hx6 : ZAF ((x.natAbs : Nat) : Int) := by unfold ZAF; omega
     obtain ⟨hb1, hb2⟩ := ZFj hI rq
     rcases S43.resolve_step hI hxe rq ho1 with ⟨hse, rq', hre⟩ | ⟨hse, ho2, hre⟩ | ⟨hse, ho2, rr, c', hrea, hc', hcf', r1, r2, ho3, hre⟩
     ·((repeat' (first | ((first | apply WL.opN | apply WD.opN); exact yF; dsimp only [ZB, z0, z1]) | refine WL.nil ?_ | refine WD.nil ?_ | refine ZA fun Kx hK => ?_ | (refine hK _ _ ?_; clear hK) | refine WC.region ?_ | (apply WC.draw; kernel_rfl; kernel_rfl) | ((first | apply ZJ | apply WD.op); (focus (first | exact wN | (apply SYG.yes; (exact wY); ((first | (apply SY.call (hvx) Tryz.call100; (exact aD)) | (exact Zv tyC (OpD.t rfl) (mAt 0 rfl)) | (exact ZH (OpD.t rfl)) | (refine ZM ZAz (OpD.t rfl) (by decide)) | (apply ZI; exact ZAl; exact OpD.t rfl; exact mAt 1 rfl; rfl) | (apply Z1 tyF; exact OpD.t rfl; exact mAt 4 rfl) | (exact Zr elI (OpD.t rfl) (mAt 11 rfl) (OpD.t rfl) hqi hqt) | (exact Zh tyI (OpD.t rfl) (mAt 11 rfl) hqt hx) | (exact ZBc hse (OpD.t rfl) (mAt 8 rfl) (OpD.t rfl) hx6) | ((first | apply SY.move | apply SY.assign | apply SY.lss | apply SY.gtr | apply SY.eql | apply SY.neq | apply SY.not) <;> (exact oD)) | ((first | apply SY.add | apply SY.sub) <;> first | exact oD | omega) | fail); all_goals infer_instance)))); dsimp only [ZB, z0, z1]) | (apply ZL; (exact oD); all_goals (intro h; try exact xD)) | refine WC.skip ?_ | refine WC.block ?_ | refine ThenD.n ?_ | refine InBlockD.n ?_)); all_goals (first | ((repeat clear hK); (repeat clear Kx))))
      all_goals try (exfalso; first | contradiction | omega)
      (refine ⟨q, ?_, by first | omega | (simp only; omega), rfl, ?_⟩; rotate_left; ((try dsimp only [ZX, z0, z1]); repeat (first | exact LeF.nil | refine ZG (k := ?_))); (try dsimp only))
      exact ⟨rq', by omega, hre.symm.trans hRq⟩
     ·have hcast : (t.opn : Int) - 1 = ((t.opn - 1 : Nat) : Int) := by omega
      have hz : ((t.opn - 1 : Nat) : Int) = 0 := by omega
      have h8 : ([-x].length + t.out.length) * 8 ≤ 140737488355328 := by simp; omega
      have hRr : R = -x :: t.out := by rw [<- hRq, hre]
      (repeat' (first | ((first | apply WL.opN | apply WD.opN); exact yF; dsimp only [ZB, z0, z1]) | refine WL.nil ?_ | refine WD.nil ?_ | refine ZA fun Kx hK => ?_ | (refine hK _ _ ?_; clear hK) | (refine Kont.skip ?_; clear hK) | refine WC.region ?_ | (apply WC.draw; kernel_rfl; kernel_rfl) |  (refine ZK (SW.at 5 rfl fun q => ZAD tyI (OpD.t rfl) (OpD.t rfl) Zf) fun _ => ?_; dsimp only [ZB, z0, z1]) |  (refine ZM2 elI (OpD.t rfl) fun vl => ?_; dsimp only [ZB, z0, z1]) |  (refine ZLS (i := 8) 72 elI (OpD.t rfl) rfl rfl (by decide) h8 fun vn => ?_; refine ZBM (mAt 0 rfl) fun hvv => ?_; refine WL.perm ZNg ?_; dsimp only [ZB, z0, z1, List.eraseIdx_cons_succ, List.eraseIdx_cons_zero]) |  (refine ZK (SW.at 6 rfl fun q => ZAD ZAl (OpD.t rfl) (OpD.t rfl) (Z8 hvv)) fun _ => ?_; dsimp only [ZB, z0, z1]) | ((first | apply ZJ | apply WD.op); (focus (first | exact wN | (apply SYG.yes; (exact wY); ((first | (apply SY.call (hvx) Tryz.call100; (exact aD)) | (exact Zv tyC (OpD.t rfl) (mAt 0 rfl)) | (exact ZH (OpD.t rfl)) | (refine ZM ZAz (OpD.t rfl) (by decide)) | (apply ZI; (first | exact ZAl | exact ZCz | exact ZBi); exact OpD.t rfl; exact mAt 1 rfl; rfl) | (apply Z1 tyF; exact OpD.t rfl; exact mAt 4 rfl) | (apply Z1 tyI; exact OpD.t rfl; exact mAt 5 rfl) | (exact Zr elI (OpD.t rfl) (mAt 11 rfl) (OpD.t rfl) hqi hqt) | (exact Zh tyI (OpD.t rfl) (mAt 11 rfl) hqt hx) | (exact ZBc hse (OpD.t rfl) (mAt 8 rfl) (OpD.t rfl) hx6) | (exact hcast ▸ SY.sub (OpD.t rfl) Zl (by omega)) | (exact SY.neg (OpD.t rfl) (by omega)) | (apply Z1 ZAl; exact OpD.t rfl; (first | exact mAt 7 rfl | exact mAt 6 rfl)) | (apply Z3; exact OpD.t rfl; exact mAt 7 rfl; exact elI.unt) | ((first | apply SY.move | apply SY.assign | apply SY.lss | apply SY.gtr | apply SY.eql | apply SY.neq | apply SY.not) <;> (exact oD)) | ((first | apply SY.add | apply SY.sub) <;> first | exact oD | omega) | fail); all_goals infer_instance)))); dsimp only [ZB, z0, z1]) | (apply ZC; (exact oD); all_goals (intro h; try exact xD)) | (apply ZL; (exact oD); all_goals (intro h; try exact xD)) | refine WC.exit ?_ | refine WC.block ?_))
      all_goals try (exfalso; first | contradiction | omega)
      have hRl : ([-x] ++ t.out).length = R.length := by rw [hRr]; rfl
      rw [hRl, show [-x] ++ t.out = R from hRr.symm]
      have hRV : ∀ y ∈ R, y.natAbs ≤ V := fun y hy => by
       rw [hRr] at hy
       rcases List.mem_cons.1 hy with rfl | hy
       ·omega
       ·have := hI.trng _ (rq.out y hy).1
        omega
      have hRs : R.length ≤ V + 1 := by rw [hRr]; simp; omega
      (refine ZP (X := Nat × List Int × Nat) (fun x => [(101, dI (x.1 : Int)), (16, dI (x.2.2 : Int)), (17, dA), (18, dA), (102, dA), (103, dA), (104, dA), (105, dA), (106, dA), (107, dA), (108, dA), (109, dA), (110, dA), (111, dA), (112, dA), (113, dA), (114, dA), (115, dA), (116, dA), (117, dA), (118, dA), (119, dA), (120, dA), (121, dA), (122, dA), (123, dA), (124, dA), (125, dA), (126, dA), (127, dA), (128, dA), (129, dA), (130, dA), (131, dA), (132, dA), (133, dA), (134, dA), (135, dA), (136, dA), (137, dA), (138, dA)]) (fun x => (lrO X V s v2 b6 b7 b8 bm vn (mkL t x.2.1) hp)) (fun x => R.length - x.1) (fun x => x.1 ≤ R.length /\ x.2.1.length = R.length /\ (List.range x.1).foldl (ZAs s) (R, 0) = (x.2.1, x.2.2) /\ ∀ y ∈ x.2.1, y.natAbs ≤ V) (0, R, 0) ?start ?frame0 ?objs0 ?round)
      case start => exact ⟨Nat.zero_le _, rfl, rfl, hRV⟩
      case frame0 => ((try dsimp only [ZX, z0, z1]); repeat (first | exact LeF.nil | refine ZG (k := ?_)))
      case objs0 => rfl
      case round =>
       rintro ⟨i, o, lv⟩ ⟨hi, hol, hfo, hov⟩
       simp only at hi hol hfo hov
       dsimp only [ZX, z0, z1]
       by_cases hil : i < R.length
       ·have hle : (i : Int) < (R.length : Int) := by omega
        have hio : i < o.length := by omega
        obtain ⟨y, hy⟩ : ∃ y, o[i] = y := ⟨_, rfl⟩
        have hyd : o.getD i 0 = y := by rw [List.getD_eq_getElem?_getD, List.getElem?_eq_getElem hio, Option.getD_some, hy]
        have hyV := hov y (by rw [<- hy]; exact List.getElem_mem hio)
        have hvy := ZAa y (by omega)
        have hy6 : ZAF ((y.natAbs : Nat) : Int) := by unfold ZAF; omega
        have hfs : (List.range (i + 1)).foldl (ZAs s) (R, 0) = ZAs s (o, lv) i := by rw [List.range_succ, List.foldl_append, hfo]; rfl
        rcases Nat.eq_zero_or_pos i with hi0 | hi0
        ·have hg : decide ((0 : Int) < (i : Int)) = false := by rw [hi0]; decide
         have hts : ZAs s (o, lv) i = (o, lv) := by unfold ZAs; rw [if_neg (by omega)]
         ((repeat' (first | ((first | apply WL.opN | apply WD.opN); exact yF; dsimp only [ZB, z0, z1]) | refine WL.nil ?_ | refine WD.nil ?_ | refine ZA fun Kx hK => ?_ | (refine hK _ _ ?_; clear hK) | refine WC.region ?_ | (apply WC.draw; kernel_rfl; kernel_rfl) | ((first | apply ZJ | apply WD.op); (focus (first | exact wN | (apply SYG.yes; (exact wY); ((first | (exact ZFk hg (OpD.t rfl) Zl) | (exact Zr elI (OpD.t rfl) (mAt 7 rfl) (OpD.t rfl) rfl hio) | (exact Zh tyI (OpD.t rfl) (mAt 7 rfl) hio hy) | ((first | apply SY.move | apply SY.assign | apply SY.lss | apply SY.gtr | apply SY.eql | apply SY.neq | apply SY.not) <;> (exact oD)) | ((first | apply SY.add | apply SY.sub) <;> first | exact oD | omega) | (apply Zp; (exact oD); (with_reducible rfl); (exact oD)) | fail); all_goals infer_instance)))); dsimp only [ZB, z0, z1]) | (apply Zg; (exact oD); (with_reducible rfl)) | (apply ZC; (exact oD); all_goals (intro h; try exact xD)) | refine WC.skip ?_ | refine WC.block ?_ | refine ThenD.n ?_)); all_goals (first | ((repeat clear hK); (repeat clear Kx))))
         all_goals try (exfalso; first | contradiction | omega)
         (refine ⟨(i + 1, o, lv), ?_, by first | omega | (simp only; omega), rfl, ?_⟩; rotate_left; ((try dsimp only [ZX, z0, z1]); repeat (first | exact LeF.nil | refine ZG (k := ?_))); (try dsimp only))
         exact ⟨by omega, hol, hfs.trans hts, hov⟩
        ·have hg : decide ((0 : Int) < (i : Int)) = true := by rw [decide_eq_true]; omega
         have h1o : 1 < o.length := by omega
         obtain ⟨z, hz1⟩ : ∃ z, o[1] = z := ⟨_, rfl⟩
         have hzd : o.getD 1 0 = z := by rw [List.getD_eq_getElem?_getD, List.getElem?_eq_getElem h1o, Option.getD_some, hz1]
         have hio' : i < (o.set 1 y).length := by rw [List.length_set]; exact hio
         have h1o' : 1 < (o.set 1 y).length := by rw [List.length_set]; exact h1o
         by_cases hlv : lv < s.lev y.natAbs
         ·have hts : ZAs s (o, lv) i = ((o.set 1 y).set i z, s.lev y.natAbs) := by
           have e1 : (0 < i /\ (o, lv).2 < s.lev ((o, lv).1.getD i 0).natAbs) := ⟨hi0, by show lv < s.lev (o.getD i 0).natAbs; rw [hyd]; exact hlv⟩
           unfold ZAs
           rw [if_pos e1]
           show ((o.set i (o.getD 1 0)).set 1 (o.getD i 0), s.lev (o.getD i 0).natAbs) = _
           rw [ZMP hyd hzd, hyd]
          (repeat' (first |  (refine WC.drawE (id := 30) (β := Unit) 11 (fun _ => lrO X V s v2 b6 b7 b8 bm vn (mkL t (o.set 1 y)) hp) (fun _ => dX undef) _ rfl (by kernel_rfl) (by kernel_rfl) ?_; simp only [List.take_succ_cons, List.take_zero, List.drop_succ_cons, List.drop_zero]) | ((first | apply WL.opN | apply WD.opN); exact yF; dsimp only [ZB, z0, z1]) | refine WL.nil ?_ | refine WD.nil ?_ | refine ZA fun Kx hK => ?_ | (refine hK _ _ ?_; clear hK) | refine WC.region ?_ | (apply WC.draw; kernel_rfl; kernel_rfl) | ((first | apply ZJ | apply WD.op); (focus (first | exact wN | (apply SYG.yes; (exact wY); ((first | (apply SY.call (hvy) Tryz.call100; (exact aD)) | (exact ZFk hg (OpD.t rfl) Zl) | (exact Zv tyC (OpD.t rfl) (mAt 0 rfl)) | (exact ZH (OpD.t rfl)) | (refine ZM ZAz (OpD.t rfl) (by decide)) | (apply ZI; exact ZBi; exact OpD.t rfl; exact mAt 1 rfl; rfl) | (exact ZDh (OpD.t rfl) (mAt 2 rfl) (OpD.t rfl) hy6) | (exact Zr elI (OpD.t rfl) (mAt 7 rfl) (OpD.t rfl) rfl hio) | (exact Zh tyI (OpD.t rfl) (mAt 7 rfl) hio hy) | ((first | apply SY.move | apply SY.assign | apply SY.lss | apply SY.gtr | apply SY.eql | apply SY.neq | apply SY.not) <;> (exact oD)) | (apply Z7; (exact oD); (with_reducible rfl); (exact oD)) | fail); all_goals infer_instance)))); dsimp only [ZB, z0, z1]) | (apply ZC; (exact oD); all_goals (intro h; try exact xD)) | refine WC.skip ?_ | refine WC.block ?_))
          all_goals try (exfalso; first | contradiction | omega)
          (repeat' (first | refine WDe.nil ?_ | (apply WDe.early; (exact rfl); (focus (apply SYG.yes; (exact Zi rfl); ((first | (apply Z1 ZAl; exact OpD.t rfl; exact mAt 6 rfl) | (exact Zr elI (OpD.t rfl) (mAt 7 rfl) (OpD.t rfl) rfl hio) | (exact Zr elI (OpD.t rfl) (mAt 7 rfl) Zl (k := 1) rfl h1o) | (exact Zh tyI (OpD.t rfl) (mAt 7 rfl) hio hy) | (exact Zh tyI (OpD.t rfl) (mAt 7 rfl) h1o hz1) | ((first | apply SY.move | apply SY.assign | apply SY.lss | apply SY.gtr | apply SY.eql | apply SY.neq | apply SY.not) <;> (exact oD)) | fail); all_goals infer_instance))); dsimp only [ZB, z0, z1]) | (apply WDe.both; (focus (intro c; apply SYG.yes; (exact Zi rfl); ((first | (cases c <;> (apply Z1 ZAl; exact OpD.t rfl; exact mAt 6 rfl)) | (cases c <;> first | exact Zr elI (OpD.t rfl) (mAt 7 rfl) Zl (k := 1) rfl h1o | exact Zr elI (OpD.t rfl) (mAt 7 rfl) Zl (k := 1) rfl h1o') | ((first | apply SY.move | apply SY.assign | apply SY.lss | apply SY.gtr | apply SY.eql | apply SY.neq | apply SY.not) <;> (exact oD)) | fail); all_goals infer_instance))); dsimp only [ZB, z0, z1])))
          refine ⟨SW.at 7 rfl fun q => SW.storeR (k := 1) tyI (OpD.t rfl) (OpD.t rfl) Zf h1o, fun _ => ?_⟩
          try dsimp only [ZB, z0, z1]
          ((repeat' (first | ((first | apply WL.opN | apply WD.opN); exact yF; dsimp only [ZB, z0, z1]) | refine WL.nil ?_ | (refine hK _ _ ?_; clear hK) | refine WC.region ?_ |  (refine ZK (SW.at 7 rfl fun q => SW.storeR (k := i) tyI (OpD.t rfl) (OpD.t rfl) Zf hio') fun _ => ?_; dsimp only [ZB, z0, z1]) | ((first | apply ZJ | apply WD.op); (focus (first | exact wN | (apply SYG.yes; (exact wY); ((first | (exact Zr elI (OpD.t rfl) (mAt 7 rfl) (OpD.t rfl) rfl hio') | ((first | apply SY.add | apply SY.sub) <;> first | exact oD | omega) | fail); all_goals infer_instance)))); dsimp only [ZB, z0, z1]) | refine ThenD.n ?_)); all_goals (first | ((repeat clear hK); (repeat clear Kx))))
          all_goals try (exfalso; first | contradiction | omega)
          (refine ⟨(i + 1, (o.set 1 y).set i z, s.lev y.natAbs), ?_, by first | omega | (simp only; omega), rfl, ?_⟩; rotate_left; ((try dsimp only [ZX, z0, z1]); repeat (first | exact LeF.nil | refine ZG (k := ?_))); (try dsimp only))
          refine ⟨by omega, by rw [List.length_set, List.length_set]; exact hol, hfs.trans hts, fun u hu => ?_⟩
          rcases List.mem_or_eq_of_mem_set hu with hu | rfl
          ·rcases List.mem_or_eq_of_mem_set hu with hu | rfl
           ·exact hov u hu
           ·exact hyV
          ·exact hov _ (by rw [<- hz1]; exact List.getElem_mem h1o)
         ·have hts : ZAs s (o, lv) i = (o, lv) := by
           unfold ZAs
           rw [if_neg]
           rintro ⟨_, h2⟩
           have h2 : lv < s.lev (o.getD i 0).natAbs := h2
           rw [hyd] at h2
           exact hlv h2
          ((repeat' (first | ((first | apply WL.opN | apply WD.opN); exact yF; dsimp only [ZB, z0, z1]) | refine WL.nil ?_ | refine WD.nil ?_ | refine ZA fun Kx hK => ?_ | (refine hK _ _ ?_; clear hK) | refine WC.region ?_ | (apply WC.draw; kernel_rfl; kernel_rfl) | ((first | apply ZJ | apply WD.op); (focus (first | exact wN | (apply SYG.yes; (exact wY); ((first | (apply SY.call (hvy) Tryz.call100; (exact aD)) | (exact ZFk hg (OpD.t rfl) Zl) | (exact Zv tyC (OpD.t rfl) (mAt 0 rfl)) | (exact ZH (OpD.t rfl)) | (refine ZM ZAz (OpD.t rfl) (by decide)) | (apply ZI; exact ZBi; exact OpD.t rfl; exact mAt 1 rfl; rfl) | (exact ZDh (OpD.t rfl) (mAt 2 rfl) (OpD.t rfl) hy6) | (exact Zr elI (OpD.t rfl) (mAt 7 rfl) (OpD.t rfl) rfl hio) | (exact Zh tyI (OpD.t rfl) (mAt 7 rfl) hio hy) | ((first | apply SY.move | apply SY.assign | apply SY.lss | apply SY.gtr | apply SY.eql | apply SY.neq | apply SY.not) <;> (exact oD)) | ((first | apply SY.add | apply SY.sub) <;> first | exact oD | omega) | (apply Z7; (exact oD); (with_reducible rfl); (exact oD)) | fail); all_goals infer_instance)))); dsimp only [ZB, z0, z1]) | (apply ZC; (exact oD); all_goals (intro h; try exact xD)) | refine WC.skip ?_ | refine WC.block ?_ | refine ThenD.n ?_)); all_goals (first | ((repeat clear hK); (repeat clear Kx))))
          all_goals try (exfalso; first | contradiction | omega)
          (refine ⟨(i + 1, o, lv), ?_, by first | omega | (simp only; omega), rfl, ?_⟩; rotate_left; ((try dsimp only [ZX, z0, z1]); repeat (first | exact LeF.nil | refine ZG (k := ?_))); (try dsimp only))
          exact ⟨by omega, hol, hfs.trans hts, hov⟩
       ·obtain rfl : i = R.length := by omega
        have hle : ¬ (R.length : Int) < (R.length : Int) := by omega
        ((repeat' (first | ((first | apply WL.opN | apply WD.opN); exact yF; dsimp only [ZB, z0, z1]) | refine WL.nil ?_ | refine ZA fun Kx hK => ?_ | (refine hK _ _ ?_; clear hK) | (refine Kont.skip ?_; clear hK) | refine WC.region ?_ | ((first | apply ZJ | apply WD.op); (focus (first | exact wN | (apply SYG.yes; (exact wY); ((first | (apply Z1 ZAl; exact OpD.t rfl; exact mAt 6 rfl) | ((first | apply SY.move | apply SY.assign | apply SY.lss | apply SY.gtr | apply SY.eql | apply SY.neq | apply SY.not) <;> (exact oD)) | fail); all_goals infer_instance)))); dsimp only [ZB, z0, z1]) | (apply ZC; (exact oD); all_goals (intro h; try exact xD)) | refine WC.ret ?_ | refine WC.exit ?_)); all_goals (first | ((repeat clear hK); (repeat clear Kx))))
        all_goals try (exfalso; first | contradiction | omega)
        have htop : ZMO s R = (o, lv) := hfo
        rw [hlr, hR, htop]
        exact ⟨trivial, _, _, lrO X V s v2 b6 b7 b8 bm vn (mkL t o) [], rfl, rfl, by simp only [List.cons_append, List.append_assoc, List.nil_append], vn, v2, b6, b7, b8, bm, mkL t o, rfl, rfl, rfl⟩
     ·have hcast : (t.opn : Int) - 1 = ((t.opn - 1 : Nat) : Int) := by omega
      have hz : ¬ ((t.opn - 1 : Nat) : Int) = 0 := by omega
      have hrl : rr < s.list.length := (List.getElem?_eq_some_iff.1 hc').1
      have hrr : rr ∈ List.range s.list.length := List.mem_range.2 hrl
      have hrN : rr < ((List.range s.list.length).map X.u).length := by rw [eN]; exact hrl
      have hcd' : s.list.getD rr [] = c' := by rw [List.getD_eq_getElem?_getD, hc']; rfl
      have hcl' : c'.length ≤ V := S43.trail_len (hI.rng c' (List.mem_of_getElem? hc')) (hI.dis c' (List.mem_of_getElem? hc'))
      (repeat' (first | ((first | apply WL.opN | apply WD.opN); exact yF; dsimp only [ZB, z0, z1]) | refine WL.nil ?_ | refine WD.nil ?_ | refine ZA fun Kx hK => ?_ | (refine hK _ _ ?_; clear hK) | (refine Kont.skip ?_; clear hK) | refine WC.region ?_ | (apply WC.draw; kernel_rfl; kernel_rfl) |  (refine ZK (SW.at 5 rfl fun q => ZAD tyI (OpD.t rfl) (OpD.t rfl) Zf) fun _ => ?_; dsimp only [ZB, z0, z1]) | ((first | apply ZJ | apply WD.op); (focus (first | exact wN | (apply SYG.yes; (exact wY); ((first | (apply SY.call (hvx) Tryz.call100; (exact aD)) | (exact Zv tyC (OpD.t rfl) (mAt 0 rfl)) | (exact ZH (OpD.t rfl)) | (refine ZM ZAz (OpD.t rfl) (by decide)) | (apply ZI; (first | exact ZAl | exact ZCz | exact ZBi); exact OpD.t rfl; exact mAt 1 rfl; rfl) | (apply Z1 tyF; exact OpD.t rfl; exact mAt 4 rfl) | (apply Z1 tyI; exact OpD.t rfl; exact mAt 5 rfl) | (exact Zr elI (OpD.t rfl) (mAt 11 rfl) (OpD.t rfl) hqi hqt) | (exact Zh tyI (OpD.t rfl) (mAt 11 rfl) hqt hx) | (exact ZBc hse (OpD.t rfl) (mAt 8 rfl) (OpD.t rfl) hx6) | (exact hcast ▸ SY.sub (OpD.t rfl) Zl (by omega)) | (exact ZMy hrea (OpD.t rfl) (mAt 10 rfl) (OpD.t rfl) hx6) | (exact Zr ZB7 (OpD.t rfl) (mAt 13 rfl) (OpD.t rfl) rfl hrN) | (exact ZDM ZAl (OpD.t rfl) (mAt 13 rfl) hrN (hku rr hrN)) | (exact ZAu rfl (OpD.t rfl) (ZEu [_, _, _, _, _, _, _, _, _, _, _, _, _, _] hrr hcd') elI.unt) | ((first | apply SY.move | apply SY.assign | apply SY.lss | apply SY.gtr | apply SY.eql | apply SY.neq | apply SY.not) <;> (exact oD)) | ((first | apply SY.add | apply SY.sub) <;> first | exact oD | omega) | fail); all_goals infer_instance)))); dsimp only [ZB, z0, z1]) | (apply ZC; (exact oD); all_goals (intro h; try exact xD)) | (apply ZL; (exact oD); all_goals (intro h; try exact xD)) | refine WC.skip ?_ | refine WC.exit ?_ | refine WC.block ?_))
      all_goals try (exfalso; first | contradiction | omega)
      (refine ZP (X := Nat × Value) (fun x => [(88, dI (x.1 : Int)), (15, dA), (89, dA), (90, dA), (91, dA), (92, dA), (93, dA), (94, dA), (95, dA), (96, dA), (97, dA), (98, dA)]) (fun x => (lrO X V s v2 b6 b7 b8 bm x.2 (((c'.take x.1).filter fun y => decide (y ≠ s.trail[q])).foldl (S43.look s) (lk1 t)) hp)) (fun x => c'.length - x.1) (fun x => x.1 ≤ c'.length) (0, vo1) ?start ?frame0 ?objs0 ?round)
      case start => exact Nat.zero_le _
      case frame0 => ((try dsimp only [ZX, z0, z1]); repeat (first | exact LeF.nil | refine ZG (k := ?_)))
      case objs0 => rfl
      case round =>
       rintro ⟨j, vo2⟩ hj
       simp only at hj
       dsimp only [ZX, z0, z1]
       have hpre := S43.looks_ok hI ((c'.take j).filter fun y => decide (y ≠ s.trail[q])) (lk1 t) r1 (fun y hy => by
        obtain ⟨y1, y2⟩ := List.mem_filter.1 hy
        exact hcf' y (List.take_subset _ _ y1) (by rw [hx] at y2; exact of_decide_eq_true y2))
       obtain ⟨hb3, hb4⟩ := ZFj hI hpre.1
       by_cases hjl : j < c'.length
       ·have hle : (j : Int) < (c'.length : Int) := by omega
        have hyr := hI.rng c' (List.mem_of_getElem? hc') _ (List.getElem_mem hjl)
        have hft := ZHb (x := s.trail[q]) hjl
        by_cases hyx : c'[j] = x
        ·rw [hx] at hft
         rw [if_pos hyx, List.append_nil] at hft
         ((repeat' (first | ((first | apply WL.opN | apply WD.opN); exact yF; dsimp only [ZB, z0, z1]) | refine WL.nil ?_ | refine ZA fun Kx hK => ?_ | (refine hK _ _ ?_; clear hK) | refine WC.region ?_ | ((first | apply ZJ | apply WD.op); (focus (first | exact wN | (apply SYG.yes; (exact wY); ((first | (exact Zr elI (OpD.t rfl) (ZEu [_, _, _, _, _, _, _, _, _, _, _, _, _, _] hrr hcd') (OpD.t rfl) rfl hjl) | (exact Zh tyI (OpD.t rfl) (ZEu [_, _, _, _, _, _, _, _, _, _, _, _, _, _] hrr hcd') hjl hyx) | ((first | apply SY.move | apply SY.assign | apply SY.lss | apply SY.gtr | apply SY.eql | apply SY.neq | apply SY.not) <;> (exact oD)) | ((first | apply SY.add | apply SY.sub) <;> first | exact oD | omega) | fail); all_goals infer_instance)))); dsimp only [ZB, z0, z1]) | (apply ZC; (exact oD); all_goals (intro h; try exact xD)) | (apply ZO; (exact oD); all_goals (intro h; try exact xD)) | refine WC.skip ?_ | refine WC.block ?_ | refine ThenD.n ?_)); all_goals (first | ((repeat clear hK); (repeat clear Kx))))
         all_goals try (exfalso; first | contradiction | omega)
         rw [hx, <- hft]
         (refine ⟨(j + 1, vo2) , ?_, by first | omega | (simp only; omega), by ((try simp only);  try rw [hx]), ?_⟩; rotate_left; ((try dsimp only [ZX, z0, z1]); repeat (first | exact LeF.nil | refine ZG (k := ?_))); (try dsimp only))
         omega
        ·rw [hx] at hft
         rw [if_neg hyx] at hft
         have hlk := ZMf X V s v2 b6 b7 b8 bm vo2 (((c'.take j).filter fun y => decide (y ≠ s.trail[q])).foldl (S43.look s) (lk1 t)) c'[j] (by omega) (by omega) (by omega)
         ((repeat' (first | ((first | apply WL.opN | apply WD.opN); exact yF; dsimp only [ZB, z0, z1]) | refine WL.nil ?_ | refine ZA fun Kx hK => ?_ | (refine hK _ _ ?_; clear hK) | refine WC.region ?_ |  (refine WL.callC (hp1 := lkO X V s v2 b6 b7 b8 bm vo2 (((c'.take j).filter fun y => decide (y ≠ s.trail[q])).foldl (S43.look s) (lk1 t))) (caps := [ZDE b7, v2, ZDE b8, ZDE b6]) hlk Tryz.call102 (OpD.t rfl) (ArgsD.cons (OpD.t rfl) ArgsD.nil) ?_; rintro d' hp2 ⟨vo', rfl⟩; dsimp only [ZB, z0, z1, List.cons_append, List.nil_append]) | ((first | apply ZJ | apply WD.op); (focus (first | exact wN | (apply SYG.yes; (exact wY); ((first | (exact Zr elI (OpD.t rfl) (ZEu [_, _, _, _, _, _, _, _, _, _, _, _, _, _] hrr hcd') (OpD.t rfl) rfl hjl) | (exact Zh tyI (OpD.t rfl) (ZEu [_, _, _, _, _, _, _, _, _, _, _, _, _, _] hrr hcd') hjl rfl) | ((first | apply SY.move | apply SY.assign | apply SY.lss | apply SY.gtr | apply SY.eql | apply SY.neq | apply SY.not) <;> (exact oD)) | ((first | apply SY.add | apply SY.sub) <;> first | exact oD | omega) | fail); all_goals infer_instance)))); dsimp only [ZB, z0, z1]) | (apply ZC; (exact oD); all_goals (intro h; try exact xD)) | (apply ZO; (exact oD); all_goals (intro h; try exact xD)) | refine WC.skip ?_ | refine WC.block ?_ | refine ThenD.n ?_)); all_goals (first | ((repeat clear hK); (repeat clear Kx))))
         all_goals try (exfalso; first | contradiction | omega)
         have hfo : ((c'.take (j + 1)).filter fun y => decide (y ≠ s.trail[q])).foldl (S43.look s) (lk1 t) = S43.look s (((c'.take j).filter fun y => decide (y ≠ s.trail[q])).foldl (S43.look s) (lk1 t)) c'[j] := by
          rw [hx, hft, List.foldl_append]; rfl
         rw [<- hfo]
         (refine ⟨(j + 1, vo'), ?_, by first | omega | (simp only; omega), rfl, ?_⟩; rotate_left; ((try dsimp only [ZX, z0, z1]); repeat (first | exact LeF.nil | refine ZG (k := ?_))); (try dsimp only))
         omega
       ·obtain rfl : j = c'.length := by omega
        have hle : ¬ (c'.length : Int) < (c'.length : Int) := by omega
        rw [List.take_length]
        ((repeat' (first | refine WL.nil ?_ | refine ZA fun Kx hK => ?_ | (refine hK _ _ ?_; clear hK) | refine WC.region ?_ | ((first | apply ZJ | apply WD.op); (focus (first | exact wN | (apply SYG.yes; (exact wY); ((first | ((first | apply SY.move | apply SY.assign | apply SY.lss | apply SY.gtr | apply SY.eql | apply SY.neq | apply SY.not) <;> (exact oD)) | fail); all_goals infer_instance)))); dsimp only [ZB, z0, z1]) | (apply ZC; (exact oD); all_goals (intro h; try exact xD)) | refine WC.exit ?_ | refine ThenD.n ?_ | refine ThenD.x ?_ | refine InBlockD.x ?_ | refine InBlockD.n ?_)); all_goals (first | ((repeat clear hK); (repeat clear Kx))))
        all_goals try (exfalso; first | contradiction | omega)
        (refine ⟨(q, (c'.filter fun y => decide (y ≠ s.trail[q])).foldl (S43.look s) (lk1 t), vo2), ?_, by first | omega | (simp only; omega), rfl, ?_⟩; rotate_left; ((try dsimp only [ZX, z0, z1]); repeat (first | exact LeF.nil | refine ZG (k := ?_))); (try dsimp only))
        rw [hx]
        exact ⟨r2, ho3, by omega, hre.symm.trans hRq⟩
end
end Go.Proofs.YtjmignmnlpamjaaGreat
