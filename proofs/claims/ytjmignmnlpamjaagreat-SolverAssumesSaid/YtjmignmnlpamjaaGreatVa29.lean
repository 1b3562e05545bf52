/- Part 29: walks by contracts, and plain laws. -/
import Derived.Test.YtjmignmnlpamjaaGreatVa28
set_option linter.unusedVariables false
set_option linter.unusedSimpArgs false
set_option linter.unusedSectionVars false
set_option maxRecDepth 100000
set_option maxHeartbeats 4000000
namespace Go.Proofs.YtjmignmnlpamjaaGreat
section
open Go.RowKit
open S43 (up up_eq up_ne)
def ZEG (V : Int) : List Int -> List Int -> Int
 | _, [] => 0
 | seen, x :: l => if ZA8 V x = true then (if x ∈ seen \/ -x ∈ seen then 7 else ZEG V (seen ++ [x]) l) else 2
def asF (a : List Int) : Nat -> Int := a.foldl (fun f x => up f x.natAbs x) (fun _ => 0)
theorem ZFr (a : List Int) (x : Int) : asF (a ++ [x]) = up (asF a) x.natAbs x := by unfold asF; rw [List.foldl_append]; rfl
structure Asn (V : Nat) (a : List Int) : Prop where
 rng : ∀ x ∈ a, x ≠ 0 /\ x.natAbs ≤ V
 dis : a.Pairwise fun x y => x.natAbs ≠ y.natAbs
theorem Asn.nil (V : Nat) : Asn V [] := ⟨(fun x hx => by cases hx), List.Pairwise.nil⟩
theorem Asn.snoc {V : Nat} {a : List Int} {x : Int} (h : Asn V a) (hx : x ≠ 0 /\ x.natAbs ≤ V) (h1 : x ∉ a) (h2 : -x ∉ a) : Asn V (a ++ [x]) := ⟨fun y hy => by
  rcases List.mem_append.1 hy with hy | hy
  ·exact h.rng y hy
  ·rw [List.mem_singleton.1 hy]; exact hx, by
  refine List.pairwise_append.2 ⟨h.dis, List.pairwise_singleton _ _, fun y hy z hz e => ?_⟩
  rw [List.mem_singleton.1 hz] at e
  rcases (by omega : y = x \/ y = -x) with rfl | rfl
  ·exact h1 hy
  ·exact h2 hy⟩
theorem Asn.front {V : Nat} {a : List Int} {x : Int} (h : Asn V (a ++ [x])) : Asn V a := ⟨fun y hy => h.rng y (List.mem_append.2 (.inl hy)), (List.pairwise_append.1 h.dis).1⟩
theorem ZEP {V : Nat} : ∀ (n : Nat) (a : List Int), a.length = n -> Asn V a -> ∀ y : Int, y ≠ 0 -> (asF a y.natAbs = y ↔ y ∈ a) /\ (asF a y.natAbs = 0 ↔ y ∉ a /\ -y ∉ a) := by
 intro n
 induction n with
 | zero =>
  intro a ha _ y hy
  have : a = [] := List.length_eq_zero_iff.1 ha
  subst this
  simp only [asF, List.foldl_nil, List.not_mem_nil, not_false_eq_true, and_self, iff_false]
  exact ⟨fun e => hy e.symm, trivial⟩
 | succ n ih =>
  intro a ha hA y hy
  obtain ⟨b, x, rfl⟩ : ∃ b x, a = b ++ [x] := ⟨a.dropLast, a.getLast (by intro e; rw [e] at ha; cases ha), (List.dropLast_concat_getLast _).symm⟩
  have hb := ih b (by rw [List.length_append, List.length_singleton] at ha; omega) hA.front y hy
  have hx := hA.rng x (by simp)
  have hd := (List.pairwise_append.1 hA.dis).2.2
  rw [ZFr]
  by_cases e : y.natAbs = x.natAbs
  ·rw [e, up_eq]
   rcases (by omega : y = x \/ y = -x) with rfl | rfl
   ·exact ⟨by simp, ⟨fun h => absurd h hy, fun h => absurd (List.mem_append.2 (.inr (List.mem_singleton.2 rfl))) h.1⟩⟩
   ·refine ⟨⟨fun h => by omega, fun h => ?_⟩, ⟨fun h => absurd h hx.1, fun h => absurd (List.mem_append.2 (.inr (List.mem_singleton.2 (Int.neg_neg x)))) h.2⟩⟩
    rcases List.mem_append.1 h with h | h
    ·exact absurd (Int.natAbs_neg x) (hd _ h x (by simp))
    ·have := List.mem_singleton.1 h; omega
  ·rw [up_ne e]
   have h1 : y ∈ b ++ [x] ↔ y ∈ b := by
    rw [List.mem_append, List.mem_singleton]
    exact ⟨fun h => h.resolve_right fun q => e (by rw [q]), .inl⟩
   have h2 : -y ∈ b ++ [x] ↔ -y ∈ b := by
    rw [List.mem_append, List.mem_singleton]
    exact ⟨fun h => h.resolve_right fun q => e (by rw [<- q, Int.natAbs_neg]), .inl⟩
   rw [h1, h2]
   exact hb
theorem ZJ2 {V : Nat} (hV : V ≤ 4096) : ∀ (l seen : List Int), ZEG (V : Int) seen l = 0 -> Asn V seen -> Asn V (seen ++ l)
 | [], seen, _, h => by rw [List.append_nil]; exact h
 | x :: l, seen, h, hs => by
  unfold ZEG at h
  by_cases hg : ZA8 (V : Int) x = true
  ·rw [if_pos hg] at h
   by_cases hm : x ∈ seen \/ -x ∈ seen
   ·rw [if_pos hm] at h; cases h
   ·rw [if_neg hm] at h
    have := ZJ2 hV l (seen ++ [x]) h (hs.snoc (ZBU.1 hg) (fun q => hm (.inl q)) (fun q => hm (.inr q)))
    rwa [List.append_assoc] at this
  ·rw [if_neg hg] at h; cases h
theorem ZJ1 {V : Nat} : ∀ (l seen : List Int), Asn V (seen ++ l) -> ZEG (V : Int) seen l = 0
 | [], _, _ => rfl
 | x :: l, seen, h => by
  have hx := h.rng x (by simp)
  have hd := (List.pairwise_append.1 h.dis).2.2
  unfold ZEG
  rw [if_pos (ZBU.2 hx), if_neg]
  ·exact ZJ1 l (seen ++ [x]) (by rw [List.append_assoc]; exact h)
  ·rintro (q | q)
   ·exact hd x q x (by simp) rfl
   ·exact hd (-x) q x (by simp) (Int.natAbs_neg x)
theorem Asn.len {V : Nat} {a : List Int} (h : Asn V a) : a.length ≤ V := S43.trail_len h.rng h.dis
theorem ZER {V : Nat} (hV : V ≤ 4096) {x : Int} (h : x.natAbs ≤ V) : ZBm x = (x.natAbs : Int) := by
 unfold ZBm
 rw [ZGO hV h]
 split <;> omega
def pAs (fa : Nat -> Int) : (Int -> Option Int) -> Prop := fun g => ∀ v : Nat, (g (v : Int)).getD 0 = fa v
theorem ZMk {fa : Nat -> Int} {v : Nat} {x : Int} : ∀ f, pAs fa f -> pAs (up fa v x) (upF f (v : Int) (some x)) := fun f h y => by
 unfold upF up
 by_cases e : y = v
 ·rw [if_pos (by rw [e]), if_pos e]; rfl
 ·rw [if_neg (by omega), if_neg e]; exact h y
theorem ZKd : MapT Tryz.prog 88 3 3 (.int .i64 0) := ⟨Tryz.underlying88, fun w => by kernel_rfl⟩
theorem ZOO : TyI Tryz.prog 88 1 false := ⟨by kernel_rfl, Tryz.isAgg88⟩
theorem tzVa : TyZ Tryz.prog 88 (.map none) := ⟨by kernel_rfl⟩
theorem ZGX {ops : Array Oper} {hp : List HObj} {fr : List Dat} {dst : Option Tmp} {ty : TypeId} {ps : String} {af : Array Edge} {g : Option (Nat × Bool)} {b : Nat} {x y : Operand} {fa : Nat -> Int} {l : Nat} {u : Int} (hu : fa l = u) (hx : OpD fr x (dX (.map (some b)))) (hm : hG b kvI ZAF kvI (pAs fa) ∈ hp) (hy : OpD fr y (dI (l : Int))) (ho : ZAF (l : Int)) :
  SY Tryz.prog ops hp ⟨dst, .lookup 88 x y false, ty, ps, af, g⟩ fr (dI u) :=
 ZCr ZKd ZAP hx hm hy isI ho fun I w f hf => by
  have := hf l
  rw [hu] at this
  cases h : f (l : Int) <;> rw [h] at this <;> simp at this <;> show _ = _
  ·rw [<- this]; rfl
  ·rw [<- this]; rfl
theorem ZB1 (x : Int) : Fn Tryz.prog 50 [dI x] (dI (ZBm x)) := ZFi fun I w u hu => by
 cases (hu : _ = _)
 refine (ZBl x w).mono ?_
 rintro e w' ⟨rfl, rfl⟩
 exact ⟨_, rfl, Ext.refl _, rfl⟩
section
variable {P : Program} {f : FuncId} {fn : Func} {c : Code} {ds : List Dat} {hp1 : List HObj}
def fin2L (t u : Nat) (K : Dat -> Dat -> List HObj -> Prop) (hp : List HObj) : ZAb := fun e f q => (match e with | .normal | .ret => True | _ => False) /\ ∃ d d' e2 e3 hp2, f[t]? = some d /\ f[u]? = some d' /\ d.le e2 /\ d'.le e3 /\ q = hp2 ++ hp /\ K e2 e3 hp2
theorem ZBb {t u : Nat} {K : Dat -> Dat -> List HObj -> Prop} (hf : P.funcs[f]? = some fn) (hb : fn.body = some c) (hr : fn.results = #[.tmp t, .tmp u])
  (h : ∀ hp, WC P (fin2L t u K hp) c (ds ++ List.replicate (fn.ntmps - ds.length) (dX undef)) (hp1 ++ hp)) : CallC P f ds hp1 (fun d hp2 => ∃ e2 e3, d = dT [e2, e3] /\ K e2 e3 hp2) := ⟨fun P0 B w0 hp vs W hh hl hv => by
 refine calls_of_wp hf hb ?_
 have hf0 := ZBw (m := fn.ntmps - ds.length) hl hv
 have hsz : vs.toArray.size = ds.length := by simp [hl]
 rw [hsz]
 refine Code.wp_mono (fun e a' w' ⟨f', p', q, hh', hf'⟩ => ?_) ((h hp).on hh hf0)
 obtain ⟨hx, d, d', e2, e3, hp2, hd, hd', l2, l3, rfl, hk'⟩ := q
 have hT : (dT [e2, e3]).rd (Imm P0 B (hp2 ++ hp)) w' (.tuple #[a'.tmps.getD t undef, a'.tmps.getD u undef]) := ZGi (l2 _ _ _ (hf'.rd t d hd)) (l3 _ _ _ (hf'.rd u d' hd'))
 cases e with
 | normal => exact ⟨hf'.defers, _, results_tmp2 hr _ _ _, _, _, hp2, rfl, ⟨e2, e3, rfl, hk'⟩, hh', hT⟩
 | ret => exact ⟨hf'.defers, _, results_tmp2 hr _ _ _, _, _, hp2, rfl, ⟨e2, e3, rfl, hk'⟩, hh', hT⟩
 | _ => exact hx.elim⟩
end
theorem ZLw (xs : List Int) (hxl : xs.length ≤ 1000000) (gf : FuncId) (caps : List Value) (he : ZBu Tryz.prog gf) (O : List HObj) (p : Int -> Bool)
  (hcl : ∀ x ∈ xs, CallC Tryz.prog gf ([dI x] ++ caps.map dX) O (fun d hp2 => d = dB (p x) /\ hp2 = O)) :
  CallC Tryz.prog 96 ([dS ZW xs, dX (.func (.func gf) #[] caps.toArray)] ++ ([] : List Value).map dX) O (fun d hp2 => d = dI (ZFU p xs) /\ hp2 = O) := by
 (refine Zo Tryz.func96 rfl rfl (fun hp => ?_); simp only [Tryz.ntmps96, List.length_cons, List.length_nil, List.length_append, List.length_map, Nat.reduceAdd, Nat.reduceSub, List.replicate_succ, List.replicate_zero, List.cons_append, List.nil_append, List.map_cons, List.map_nil, List.append_assoc])
 (repeat' (first | (apply WL.opN; exact yF; dsimp only [ZB, z0, z1]) | refine WL.nil ?_ | refine ZA fun Kx hK => ?_ | (refine hK _ _ ?_; clear hK) | refine WC.region ?_ | (apply WL.opN; (focus ((first | (apply SY.len; (exact oD); (exact nD); (exact uD)) | fail); all_goals infer_instance)); dsimp only [ZB, z0, z1]) | refine WC.block ?_))
 (refine ZP (X := Nat) (fun i => [(8, dI (i : Int)), (4, dA), (5, dA), (9, dA), (10, dA), (11, dA), (12, dA), (13, dA), (14, dA), (15, dA), (16, dA), (17, dA), (18, dA)]) (fun i => (O ++ hp)) (fun i => xs.length - i) (fun i => i ≤ xs.length /\ ∀ j (hj : j < i) (hjx : j < xs.length), p xs[j] = false) 0 ?start ?frame0 ?objs0 ?round)
 case start => exact ⟨Nat.zero_le _, fun j hj => absurd hj (Nat.not_lt_zero j)⟩
 case frame0 => ((try dsimp only [ZX, z0, z1]); repeat (first | exact LeF.nil | refine ZG (k := ?_)))
 case objs0 => rfl
 case round =>
  rintro i ⟨hi, hno⟩
  dsimp only [ZX, z0, z1]
  by_cases hin : i < xs.length
  ·have hlt : (i : Int) < (xs.length : Int) := by omega
   have hC := hcl _ (List.getElem_mem hin)
   cases hp : p xs[i] with
   | true =>
    rw [hp] at hC
    ((repeat' (first | (apply WL.opN; exact yF; dsimp only [ZB, z0, z1]) | refine WL.nil ?_ | refine ZA fun Kx hK => ?_ | (refine hK _ _ ?_; clear hK) | refine WC.region ?_ |  (refine WL.callC (hp1 := O) (caps := caps) hC he (OpD.t rfl) (ArgsD.cons (OpD.t rfl) ArgsD.nil) ?_; rintro d' hp2 ⟨rfl, hpe⟩; have hpe := hpe.symm; subst hpe; dsimp only [ZB, z0, z1, List.cons_append]) | (apply WL.opN; (focus ((first | (refine ZAy (R := RI) (_gR := inferInstance) (k := i) elI (OpD.t rfl) (OpD.t rfl) hin) | ((first | apply SY.move | apply SY.assign | apply SY.lss) <;> (exact oD)) | fail); all_goals infer_instance)); dsimp only [ZB, z0, z1]) | (apply Zj; (exact oD); (with_reducible rfl)) | (apply ZC; (exact oD); all_goals (intro h; try exact xD)) | refine WC.skip ?_ | refine WC.ret ?_ | refine WC.block ?_ | refine ThenD.r ?_ | refine InBlockD.r ?_)); all_goals (first | ((repeat clear hK); (repeat clear Kx))))
    all_goals try (exfalso; first | contradiction | omega)
    exact ⟨trivial, _, O, rfl, rfl, by rw [ZF0 hin hp fun j hj => hno j hj (by omega)], rfl⟩
   | false =>
    rw [hp] at hC
    ((repeat' (first | (apply WL.opN; exact yF; dsimp only [ZB, z0, z1]) | refine WL.nil ?_ | refine ZA fun Kx hK => ?_ | (refine hK _ _ ?_; clear hK) | refine WC.region ?_ |  (refine WL.callC (hp1 := O) (caps := caps) hC he (OpD.t rfl) (ArgsD.cons (OpD.t rfl) ArgsD.nil) ?_; rintro d' hp2 ⟨rfl, hpe⟩; have hpe := hpe.symm; subst hpe; dsimp only [ZB, z0, z1, List.cons_append]) | (apply WL.opN; (focus ((first | (refine ZAy (R := RI) (_gR := inferInstance) (k := i) elI (OpD.t rfl) (OpD.t rfl) hin) | ((first | apply SY.move | apply SY.assign | apply SY.lss) <;> (exact oD)) | ((first | apply SY.add) <;> first | exact oD | omega) | fail); all_goals infer_instance)); dsimp only [ZB, z0, z1]) | (apply Zg; (exact oD); (with_reducible rfl)) | (apply ZC; (exact oD); all_goals (intro h; try exact xD)) | refine WC.skip ?_ | refine WC.block ?_ | refine ThenD.n ?_)); all_goals (first | ((repeat clear hK); (repeat clear Kx))))
    all_goals try (exfalso; first | contradiction | omega)
    (refine ⟨i + 1, ?_, by first | omega | (simp only; omega), rfl, ?_⟩; rotate_left; ((try dsimp only [ZX, z0, z1]); repeat (first | exact LeF.nil | refine ZG (k := ?_))); (try dsimp only))
    refine ⟨by omega, fun j hj hjx => ?_⟩
    by_cases hji : j = i
    ·subst hji; exact hp
    ·exact hno j (by omega) hjx
  ·have hlt : ¬ (i : Int) < (xs.length : Int) := by omega
   ((repeat' (first | (apply WL.opN; exact yF; dsimp only [ZB, z0, z1]) | refine WL.nil ?_ | refine ZA fun Kx hK => ?_ | (refine hK _ _ ?_; clear hK) | (refine Kont.skip ?_; clear hK) | refine WC.region ?_ | (apply WL.opN; (focus ((first | ((first | apply SY.move | apply SY.assign | apply SY.lss) <;> (exact oD)) | fail); all_goals infer_instance)); dsimp only [ZB, z0, z1]) | (apply ZC; (exact oD); all_goals (intro h; try exact xD)) | refine WC.ret ?_ | refine WC.exit ?_)); all_goals (first | ((repeat clear hK); (repeat clear Kx))))
   all_goals try (exfalso; first | contradiction | omega)
   exact ⟨trivial, _, O, rfl, rfl, by rw [ZEg fun j hj => hno j (by omega) hj], rfl⟩
theorem ZHX (xs : List Int) (hxl : xs.length ≤ 1000000) (gf : FuncId) (caps : List Value) (he : ZBu Tryz.prog gf) (O : List HObj) (p : Int -> Bool)
  (hcl : ∀ x ∈ xs, CallC Tryz.prog gf ([dI x] ++ caps.map dX) O (fun d hp2 => d = dB (p x) /\ hp2 = O)) :
  CallC Tryz.prog 59 ([dS ZW xs, dX (.func (.func gf) #[] caps.toArray)] ++ ([] : List Value).map dX) O (fun d hp2 => d = dB (xs.any p) /\ hp2 = O) := by
 (refine Zo Tryz.func59 rfl rfl (fun hp => ?_); simp only [Tryz.ntmps59, List.length_cons, List.length_nil, List.length_append, List.length_map, Nat.reduceAdd, Nat.reduceSub, List.replicate_succ, List.replicate_zero, List.cons_append, List.nil_append, List.map_cons, List.map_nil, List.append_assoc])
 have hI := ZLw xs hxl gf caps he O p hcl
 rw [<- ZIL]
 ((repeat' (first | (apply WL.opN; exact yF; dsimp only [ZB, z0, z1]) | refine WL.nil ?_ | refine ZA fun Kx hK => ?_ | (refine hK _ _ ?_; clear hK) | refine WC.region ?_ |  (refine WL.callC (hp1 := O) (caps := []) hI Tryz.call96 OpD.f (ArgsD.cons (OpD.t rfl) (ArgsD.cons (OpD.t rfl) ArgsD.nil)) ?_; rintro d' hp2 ⟨rfl, hpe⟩; have hpe := hpe.symm; subst hpe; dsimp only [ZB, z0, z1, List.cons_append]) | (apply WL.opN; (focus ((first | ((first | apply SY.move | apply SY.assign | apply SY.geq) <;> (exact oD)) | fail); all_goals infer_instance)); dsimp only [ZB, z0, z1]) | refine WC.ret ?_)); all_goals (first | ((repeat clear hK); (repeat clear Kx))))
 all_goals exact ⟨trivial, _, O, rfl, rfl, rfl, rfl⟩
theorem ZGm {α : Type} {p : α -> Bool} {xs : List α} {i : Nat} (h : i < xs.length) : (xs.take (i + 1)).filter p = (xs.take i).filter p ++ if p xs[i] = true then [xs[i]] else [] := by
 rw [List.take_succ_eq_append_getElem h, List.filter_append]
 congr 1
 by_cases e : p xs[i] = true
 ·rw [if_pos e, List.filter_cons, if_pos e]; rfl
 ·rw [if_neg e, List.filter_cons, if_neg e]; rfl
set_option maxHeartbeats 4000000 in
theorem ZLZ (xs : List Int) (hxl : xs.length ≤ 1000000) (gf : FuncId) (caps : List Value) (he : ZBu Tryz.prog gf) (O : List HObj) (p : Int -> Bool)
  (hcl : ∀ x ∈ xs, CallC Tryz.prog gf ([dI x] ++ caps.map dX) O (fun d hp2 => d = dT [dI x, dB (p x)] /\ hp2 = O)) :
  CallC Tryz.prog 61 ([dS ZW xs, dX (.func (.func gf) #[] caps.toArray)] ++ ([] : List Value).map dX) O (fun d hp2 => ∃ v, d = dX v /\ hp2 = ZS v tI RI (xs.filter p) :: O) := by
 (refine Zo Tryz.func61 rfl rfl (fun hp => ?_); simp only [Tryz.ntmps61, List.length_cons, List.length_nil, List.length_append, List.length_map, Nat.reduceAdd, Nat.reduceSub, List.replicate_succ, List.replicate_zero, List.cons_append, List.nil_append, List.map_cons, List.map_nil, List.append_assoc])
 refine ZAH tI RI ?_
 (repeat' (first | (apply WL.opN; exact yF; dsimp only [ZB, z0, z1]) | refine WL.nil ?_ | refine ZA fun Kx hK => ?_ | (refine hK _ _ ?_; clear hK) | refine WC.region ?_ | (apply WL.opN; (focus ((first | (apply SY.len; (exact oD); (exact nD); (exact uD)) | fail); all_goals infer_instance)); dsimp only [ZB, z0, z1]) | refine WC.block ?_))
 (refine ZP (X := Nat × Value) (fun z => [(12, dI (z.1 : Int)), (5, dX z.2), (7, dA), (8, dA), (9, dA), (13, dA), (14, dA), (15, dA), (16, dA), (17, dA), (18, dA), (19, dA), (20, dA), (21, dA), (22, dA), (23, dA), (24, dA), (25, dA), (26, dA), (27, dA)]) (fun z => (ZS z.2 tI RI ((xs.take z.1).filter p) :: (O ++ hp))) (fun z => xs.length - z.1) (fun z => z.1 ≤ xs.length) (0, ZCX) ?start ?frame0 ?objs0 ?round)
 case start => exact Nat.zero_le _
 case frame0 => ((try dsimp only [ZX, z0, z1]); repeat (first | exact LeF.nil | refine ZG (k := ?_)))
 case objs0 => rfl
 case round =>
  rintro ⟨i, vo⟩ hi
  simp only at hi
  dsimp only [ZX, z0, z1]
  by_cases hin : i < xs.length
  ·have hlt : (i : Int) < (xs.length : Int) := by omega
   have hC := (hcl _ (List.getElem_mem hin)).front (ZS vo tI RI ((xs.take i).filter p))
   have et := ZGm (p := p) hin
   have hfl : ((xs.take i).filter p).length ≤ xs.length := Nat.le_trans (List.length_filter_le _ _) (by rw [List.length_take]; omega)
   have h8 : (((xs.take i).filter p).length + 1) * 8 ≤ 140737488355328 := by omega
   cases hp : p xs[i] with
   | true =>
    rw [hp] at hC
    rw [if_pos hp] at et
    ((repeat' (first | (apply WL.opN; exact yF; dsimp only [ZB, z0, z1]) | refine WL.nil ?_ | refine ZA fun Kx hK => ?_ | (refine hK _ _ ?_; clear hK) | refine WC.region ?_ |  (refine WL.callC (hp1 := ZS vo tI RI ((xs.take i).filter p) :: O) (caps := caps) hC he (OpD.t rfl) (ArgsD.cons (OpD.t rfl) ArgsD.nil) ?_; rintro d' hp2 ⟨rfl, rfl⟩; dsimp only [ZB, z0, z1, List.cons_append]) | ((first | apply WL.pushK | apply ZAS); (exact eD); exact OpD.t rfl; (exact oD); (intro _; exact hD); (exact (by simp)); (exact (by simp)); (first | exact ⟨by decide, by decide⟩ | skip); decide; (exact lD); (intro _; dsimp only [ZB, z0, z1]); all_goals (try infer_instance)) | (apply WL.opN; (focus ((first | (refine ZAy (R := RI) (_gR := inferInstance) (k := i) elI (OpD.t rfl) (OpD.t rfl) hin) | ((first | apply SY.move | apply SY.assign | apply SY.lss) <;> (exact oD)) | ((first | apply SY.add) <;> first | exact oD | omega) | (apply SY.extract; (exact oD); rfl) | fail); all_goals infer_instance)); dsimp only [ZB, z0, z1]) | (apply Zj; (exact oD); (with_reducible rfl)) | (apply ZC; (exact oD); all_goals (intro h; try exact xD)) | refine WC.skip ?_ | refine WC.block ?_ | refine ThenD.n ?_)); all_goals (first | ((repeat clear hK); (repeat clear Kx))))
    all_goals try (exfalso; first | contradiction | omega)
    rw [<- et]
    (refine ⟨(i + 1, _), ?_, by first | omega | (simp only; omega), rfl, ?_⟩; rotate_left; ((try dsimp only [ZX, z0, z1]); repeat (first | exact LeF.nil | refine ZG (k := ?_))); (try dsimp only))
    omega
   | false =>
    rw [hp] at hC
    rw [if_neg (by rw [hp]; decide), List.append_nil] at et
    ((repeat' (first | (apply WL.opN; exact yF; dsimp only [ZB, z0, z1]) | refine WL.nil ?_ | refine ZA fun Kx hK => ?_ | (refine hK _ _ ?_; clear hK) | refine WC.region ?_ |  (refine WL.callC (hp1 := ZS vo tI RI ((xs.take i).filter p) :: O) (caps := caps) hC he (OpD.t rfl) (ArgsD.cons (OpD.t rfl) ArgsD.nil) ?_; rintro d' hp2 ⟨rfl, rfl⟩; dsimp only [ZB, z0, z1, List.cons_append]) | (apply WL.opN; (focus ((first | (refine ZAy (R := RI) (_gR := inferInstance) (k := i) elI (OpD.t rfl) (OpD.t rfl) hin) | ((first | apply SY.move | apply SY.assign | apply SY.lss) <;> (exact oD)) | ((first | apply SY.add) <;> first | exact oD | omega) | (apply SY.extract; (exact oD); rfl) | fail); all_goals infer_instance)); dsimp only [ZB, z0, z1]) | (apply Zg; (exact oD); (with_reducible rfl)) | (apply ZC; (exact oD); all_goals (intro h; try exact xD)) | refine WC.skip ?_ | refine WC.block ?_ | refine ThenD.n ?_)); all_goals (first | ((repeat clear hK); (repeat clear Kx))))
    all_goals try (exfalso; first | contradiction | omega)
    rw [<- et]
    (refine ⟨(i + 1, vo), ?_, by first | omega | (simp only; omega), rfl, ?_⟩; rotate_left; ((try dsimp only [ZX, z0, z1]); repeat (first | exact LeF.nil | refine ZG (k := ?_))); (try dsimp only))
    omega
  ·have hlt : ¬ (i : Int) < (xs.length : Int) := by omega
   obtain rfl : i = xs.length := by omega
   rw [List.take_length]
   ((repeat' (first | (apply WL.opN; exact yF; dsimp only [ZB, z0, z1]) | refine WL.nil ?_ | refine ZA fun Kx hK => ?_ | (refine hK _ _ ?_; clear hK) | (refine Kont.skip ?_; clear hK) | refine WC.region ?_ | (apply WL.opN; (focus ((first | ((first | apply SY.move | apply SY.assign | apply SY.lss) <;> (exact oD)) | fail); all_goals infer_instance)); dsimp only [ZB, z0, z1]) | (apply ZC; (exact oD); all_goals (intro h; try exact xD)) | refine WC.ret ?_ | refine WC.exit ?_)); all_goals (first | ((repeat clear hK); (repeat clear Kx))))
   all_goals try (exfalso; first | contradiction | omega)
   exact ⟨trivial, _, ZS vo tI RI (xs.filter p) :: O, rfl, rfl, vo, rfl, rfl⟩
end
end Go.Proofs.YtjmignmnlpamjaaGreat
