/- Part 16: walks by contracts, and plain laws. -/
import Derived.Deep.OwnRows
import Derived.Test.YtmcllakdbgnfiaaGreatDoorVg15
set_option linter.unusedVariables false
set_option linter.unusedSimpArgs false
set_option linter.unusedSectionVars false
set_option maxRecDepth 100000
set_option maxHeartbeats 4000000
namespace Go.Proofs.YtmcllakdbgnfiaaGreatDoor
section
open Go.RowKit
section
variable {P : Program} {ops : Array Oper} {hp : List HObj} {fr : List Dat} {dst : Option Tmp} {ty : TypeId} {ps : String} {af : Array Edge} {g : Option (Nat × Bool)} {T T2 : TypeId} {x y : Operand} {a b : Nat}
theorem SY.orN (ha : a < 9223372036854775808) (hb : b < 9223372036854775808) (hx : OpD fr x (dI (a : Int))) (hy : OpD fr y (dI (b : Int))) : SY P ops hp { dst := dst, op := .binOp .or T x y T2, type := ty, pos := ps, after := af, guard := g } fr (dI ((a ||| b : Nat) : Int)) := by
 have h := SY.or (P := P) (ops := ops) (hp := hp) (dst := dst) (ty := ty) (ps := ps) (af := af) (g := g) (T := T) (T2 := T2) hx hy
 rwa [ior_cast ha hb] at h
theorem SY.andN (ha : a < 9223372036854775808) (hb : b < 9223372036854775808) (hx : OpD fr x (dI (a : Int))) (hy : OpD fr y (dI (b : Int))) : SY P ops hp { dst := dst, op := .binOp .and T x y T2, type := ty, pos := ps, after := af, guard := g } fr (dI ((a &&& b : Nat) : Int)) := by
 have h := SY.and (P := P) (ops := ops) (hp := hp) (dst := dst) (ty := ty) (ps := ps) (af := af) (g := g) (T := T) (T2 := T2) hx hy
 rwa [iand_cast ha hb] at h
theorem SY.shrN (hb : b <= 64) (hx : OpD fr x (dI (a : Int))) (hy : OpD fr y (dI (b : Int))) : SY P ops hp { dst := dst, op := .binOp .shr T x y T2, type := ty, pos := ps, after := af, guard := g } fr (dI ((a >>> b : Nat) : Int)) := by
 have h := SY.shr (P := P) (ops := ops) (hp := hp) (dst := dst) (ty := ty) (ps := ps) (af := af) (g := g) (T := T) (T2 := T2) hx hy (by omega)
 rwa [shr_cast hb] at h
theorem SY.bit1 {m i : Nat} (hm : m < 9223372036854775808) (hx : OpD fr x (dI ((m >>> i : Nat) : Int))) : SY P ops hp { dst := dst, op := .binOp .and T x (.const (.int .i64 1)) T2, type := ty, pos := ps, after := af, guard := g } fr (dI (((m >>> i) &&& 1 : Nat) : Int)) :=
 SY.andN (a := m >>> i) (b := 1) (Nat.lt_of_le_of_lt (by rw [Nat.shiftRight_eq_div_pow]; exact Nat.div_le_self _ _) hm) (by decide) hx OpD.i
end
def ZAA (bl : List Nat) : List Int := bl.map fun b : Nat => (b : Int)
theorem ZBs (bl : List Nat) : (ZAA bl).length = bl.length := by simp [ZAA]
theorem intsB_get {bl : List Nat} {k : Nat} (h : k < bl.length) (h' : k < (ZAA bl).length) : (ZAA bl)[k] = (bl[k] : Int) := by simp [ZAA]
theorem intsB_snoc (bl : List Nat) (b : Nat) : ZAA (bl ++ [b]) = ZAA bl ++ [(b : Int)] := by simp [ZAA]
section
variable {P : Program} {ops : Array Oper} {hp : List HObj} {fr : List Dat} {dst : Option Tmp} {ty : TypeId} {ps : String} {af : Array Edge} {g : Option (Nat × Bool)} {x i : Operand} {t e : TypeId} {z : Value} {bytes : Nat}
theorem SY.ixB (E : ElT P t e 1 z bytes false) {bl : List Nat} {k : Nat} (hx : OpD fr x (dS ZCE (ZAA bl))) (hi : OpD fr i (dI (k : Int))) (hk : k < bl.length) : SY P ops hp { dst := dst, op := .indexAddr t x i, type := ty, pos := ps, after := af, guard := g } fr (dP 1 false (dI ((bl[k] : Nat) : Int))) := by
 have h := SY.ix (R := RI) (_gR := inferInstance) (P := P) (ops := ops) (hp := hp) (dst := dst) (ty := ty) (ps := ps) (af := af) (g := g) E hx hi (by rw [ZBs]; exact hk)
 rwa [intsB_get hk] at h
end
def rowF (n : Nat) (f : Nat -> Nat) : List Int := (List.range n).map fun k => ((f k : Nat) : Int)
theorem rowF_len (n : Nat) (f : Nat -> Nat) : (rowF n f).length = n := by simp [rowF]
theorem rowF_get {n : Nat} {f : Nat -> Nat} {k : Nat} (h : k < (rowF n f).length) : (rowF n f)[k] = ((f k : Nat) : Int) := by simp [rowF]
theorem rowF_congr {n : Nat} {f g : Nat -> Nat} (h : ∀ k, k < n -> f k = g k) : rowF n f = rowF n g := by
 unfold rowF
 exact List.map_congr_left fun k hk => by rw [h k (List.mem_range.1 hk)]
theorem rowF_zero (n : Nat) : rowF n (fun _ => 0) = List.replicate n (0 : Int) := by
 unfold rowF
 apply List.ext_getElem (by simp)
 intro i h1 h2
 simp
theorem rowF_set {n : Nat} {f : Nat -> Nat} {i c : Nat} : (rowF n f).set i (c : Int) = rowF n fun k => if k = i then c else f k := by
 apply List.ext_getElem (by simp [rowF])
 intro k h1 h2
 rw [List.getElem_set, rowF_get h2]
 by_cases hk : i = k
 ·rw [if_pos hk, if_pos hk.symm]
 ·rw [if_neg hk, if_neg fun q => hk q.symm, rowF_get]
end
section
open Go.RowKit
section
variable {P : Program} {ops : Array Oper} {hp : List HObj} {fr : List Dat} {Q : Z1} {rest : List Oper} {c : Code} {d : Dat} {α : Type} {R : Rel α} {e : TypeId}
theorem WC.freeze {_gR : Good R} {v : Value} {xs : List α} (h : WC P Q c fr (Zu v (dS (Arr R) xs) :: hp)) : WC P Q c fr (ZU v e R xs :: hp) := WC.of fun P0 B w0 w a hh hf => by
 have hg : (Zu v (dS (Arr R) xs)).blk = none := rfl
 have hd : (dS (Arr R) xs).rd (Imm P0 B hp) w v := ZBW hh
 exact h.on (ZAo (l := []) hg hh.drop hd) (hf.mono fun d u hd => d.weak hd fun k hk => (Zl hg [] k).2 (Imm.sub k hk))
theorem WL.use {v : Value} (t : Nat) (ht : fr[t]? = some (dX v)) (hm : Zu v d ∈ hp) (h : WL P ops Q rest (fr.set t d) hp) : WL P ops Q rest fr hp := WL.of fun P0 B w0 w a hh hf => by
 refine h.on hh ⟨hf.defers, by rw [hf.size, List.length_set], fun t' d' hd' => ?_⟩
 by_cases htt : t = t'
 ·subst htt
  rw [List.getElem?_set] at hd'
  simp only [if_true] at hd'
  split at hd'
  ·cases hd'
   have h1 : a.tmps.getD t undef = v := hf.rd t _ ht
   rw [h1]
   exact hh.ok _ hm
  ·cases hd'
 ·rw [List.getElem?_set_ne htt] at hd'
  exact hf.rd t' d' hd'
structure CapH (hp : List HObj) (v : Value) (d : Dat) : Prop where
 out : ∀ {P0 : Nat -> Prop} {B : Nat} {w0 w : World}, Hp P0 B w0 hp w -> d.rd anyB w v
theorem CapH.map {K V : Type} {kv : K -> Value} {vv : V -> Value} {R : Rel V} [Good R] {M : List (K × V)} {b m : Nat} {T : TypeId} (h1 : ZO b T 1 false (dX (.map (some m))) ∈ hp) (h2 : hM m kv vv M ∈ hp) (hvv : ∀ I w (y : V), R I w (vv y) y) :
  CapH hp (.pointer (some ⟨b, 0, none⟩)) (dP 1 false (dS (MapR kv R) M)) := CapH.mk fun {P0 B w0 w} hh => by
 obtain ⟨cs, u, c1, c2, c0, c3, c4, c5⟩ := hh.ok _ h1
 have hu : u = .map (some m) := c5
 have hb : w.heap[m]? = some (Zz _) := hh.ok _ h2
 refine ⟨b, 0, u, rfl, ZAF c1 c2 c0 c3 c4 trivial, m, M.map fun p => vv p.2, hu, trivial, by simp, ?_, fun k q1 q2 => ?_⟩
 ·rw [hb]
  congr 2
  unfold Z5
  rw [List.zip_map', List.map_map]
  rfl
 ·simp only [List.getElem_map]
  exact hvv _ _ _
end
end
section
open Go.RowKit
theorem made_zero (z : Value) (n : Nat) : (madeCells #[z] n).toList = List.replicate n z := by
 unfold madeCells
 apply List.ext_getElem (by simp)
 intro i h1 h2
 simp [Nat.mod_one]
section
variable {P : Program} {ops : Array Oper} {hp : List HObj} {fr : List Dat} {d : Dat} {Q : Z1} {rest : List Oper}
variable {dst : Option Tmp} {ty : TypeId} {ps : String} {af : Array Edge} {bytes : Nat} {e t : TypeId}
theorem WL.makeI {n : Nat} {j : Int} {y y' : Operand} (E : ElT P t e 1 (.int .i64 0) bytes false) (hy : OpD fr y (dI j)) (hy' : OpD fr y' (dI j)) (hj : j = (n : Int)) (hb : bytes * n <= 281474976710656) (hm : n <= 1000000000) (h : ∀ v, WL P ops Q rest (ZB fr dst (dX v)) (ZU v e RI (List.replicate n (0 : Int)) :: hp)) :
  WL P ops Q ({ dst := dst, op := .makeSlice t y y', type := ty, pos := ps, after := af, guard := none } :: rest) fr hp := by
 refine WL.of fun P0 B w0 w a hh hf => ?_
 have h1 : a.eval y = .int .i64 n := by rw [<- hj]; exact hy.ev hf
 have h2 : a.eval y' = .int .i64 n := by rw [<- hj]; exact hy'.ev hf
 have hr := run_make_row' (P := P) t e (.int .i64 0) bytes E.und E.info rfl .i64 .i64 n hb (by omega) w
 refine Zb rfl (v := .slice (some ⟨w.heap.size, 0, none⟩) n n) (w' := w.alloc (.cells (madeCells #[.int .i64 0] n) e)) ?_ ?_
 ·unfold execOp
  simp only [h1, h2, Sem.run_bind, hr, Result.andThen_ok, Sem.run_pure]
 have hx := Ext.of_alloc w (.cells (madeCells #[.int .i64 0] n) e)
 have hb' : ∀ q, (ZU (.slice (some ⟨w.heap.size, 0, none⟩) n n) e RI (List.replicate n (0 : Int))).blk = some q -> w.heap.size <= q /\ q < (w.alloc (.cells (madeCells #[.int .i64 0] n) e)).heap.size := fun q hq => by
  cases hq
  exact ⟨Nat.le_refl _, by simp⟩
 refine (h _).on (hh.push hx hb' ?_) (Fr.put (hf.mono fun d _ hd => Za hx (fun k hk => (hb' k hk).1) hd) rfl)
 refine ⟨List.replicate n (.int .i64 0), by simp, ⟨by simp, .inr ⟨w.heap.size, n, madeCells #[.int .i64 0] n, by simp, Nat.zero_le _, Ze w _, by simp, by simp only [maxLen]; omega, by simp [size_madeCells], ?_⟩⟩, fun k a b => ?_⟩
 ·rw [made_zero, List.length_replicate, Nat.mul_one, List.take_of_length_le (by simp)]
 ·simp only [List.getElem_replicate]
  exact ⟨rfl, rfl⟩
end
end
section
open Go.RowKit

theorem possible_p (x : Vx) : Fn Tryz.prog 122 [dS RV x] (dB (rngV x)) := by
 (refine ZE Tryz.func122 rfl rfl ?_; simp only [Tryz.ntmps122, List.length_cons, List.length_nil, Nat.reduceAdd, Nat.reduceSub, List.replicate_succ, List.replicate_zero, List.cons_append, List.nil_append])
 ((repeat' (first | (apply WL.opN; exact yF; dsimp only [ZB, z0, z1]) | refine WL.nil ?_ | refine ZA fun Kx hK => ?_ | (refine hK _ _ ?_; clear hK) | refine WC.region ?_ | (apply ZJ; (focus (first | exact wN | (apply ZG; (exact wY); ((first | exact ZBu | exact yLeq | exact yGeq | exact yLoad | exact Zx | exact yPick | exact yBox | fail); all_goals infer_instance)))); dsimp only [ZB, z0, z1]) | ((first | refine Zd rfl rfl rfl (fun h => ?_) (fun h => ?_) | refine Zc rfl rfl rfl (fun h => ?_) (fun h => ?_) | refine ZY rfl rfl rfl (fun h => ?_) (fun h => ?_)) <;> (first | (exfalso; first | omega | contradiction) | (dsimp only [z0, z1]))) | refine WC.ret ?_)); all_goals (first | ((repeat clear hK); (repeat clear Kx))))
 all_goals ((refine ⟨trivial, _, rfl, ?_⟩; refine FinD.b ?_); unfold rngV; simp [*])
theorem nan_p (x : Int) : Fn Tryz.prog 169 [dI x] (dB false) := by
 (refine ZE Tryz.func169 rfl rfl ?_; simp only [Tryz.ntmps169, List.length_cons, List.length_nil, Nat.reduceAdd, Nat.reduceSub, List.replicate_succ, List.replicate_zero, List.cons_append, List.nil_append])
 ((repeat' (first | (apply WL.opN; exact yF; dsimp only [ZB, z0, z1]) | refine WL.nil ?_ | refine ZA fun Kx hK => ?_ | (refine hK _ _ ?_; clear hK) | refine WC.region ?_ | (apply WL.opN; (focus ((first | exact yNeq | fail); all_goals infer_instance)); dsimp only [ZB, z0, z1]) | refine WC.ret ?_)); all_goals (first | ((repeat clear hK); (repeat clear Kx))))
 all_goals ((refine ⟨trivial, _, rfl, ?_⟩; refine FinD.b ?_); simp)
def cmpI (x y : Int) : Int := if x < y then -1 else if y < x then 1 else 0
theorem cmpI_p (x y : Int) : Fn Tryz.prog 150 [dI x, dI y] (dI (cmpI x y)) := by
 (refine ZE Tryz.func150 rfl rfl ?_; simp only [Tryz.ntmps150, List.length_cons, List.length_nil, Nat.reduceAdd, Nat.reduceSub, List.replicate_succ, List.replicate_zero, List.cons_append, List.nil_append])
 ((repeat' (first | (apply WL.opN; exact yF; dsimp only [ZB, z0, z1]) | refine WL.nil ?_ | refine ZA fun Kx hK => ?_ | (refine hK _ _ ?_; clear hK) | refine WC.region ?_ | (apply WL.opN; (focus ((first | (apply SY.call (nan_p _) Tryz.call169; (exact aD)) | exact ZBu | exact yGtr | fail); all_goals infer_instance)); dsimp only [ZB, z0, z1]) | (apply Zr; (exact oD); (with_reducible rfl)) | (apply ZC; (exact oD); all_goals (intro h; try exact xD)) | refine WC.skip ?_ | refine WC.ret ?_ | refine ThenD.r ?_)); all_goals (first | ((repeat clear hK); (repeat clear Kx))))
 all_goals ((refine ⟨trivial, _, rfl, ?_⟩; refine FinD.i ?_); unfold cmpI; simp [*])
 all_goals omega
def orI : List Int -> Int
 | [] => 0
 | x :: l => if x = 0 then orI l else x
theorem orI_drop {l : List Int} {k : Nat} (h : k < l.length) : orI (l.drop k) = if l[k] = 0 then orI (l.drop (k + 1)) else l[k] := by
 rw [List.drop_eq_getElem_cons h]; rfl
theorem orI_p (l : List Int) : Fn Tryz.prog 149 [dS ZCE l] (dI (orI l)) := by
 (refine ZE Tryz.func149 rfl rfl ?_; simp only [Tryz.ntmps149, List.length_cons, List.length_nil, Nat.reduceAdd, Nat.reduceSub, List.replicate_succ, List.replicate_zero, List.cons_append, List.nil_append])
 (repeat' (first | (apply WL.opN; exact yF; dsimp only [ZB, z0, z1]) | refine WL.nil ?_ | refine ZA fun Kx hK => ?_ | (refine hK _ _ ?_; clear hK) | refine WC.region ?_ | (apply WL.opN; (focus ((first | exact ZBV | fail); all_goals infer_instance)); dsimp only [ZB, z0, z1]) | refine WC.block ?_))
 (first | refine ZR (t := 0) rfl le_K fun hl0 => ?_ | refine ZR (t := 0) rfl le_A fun hl0 => ?_); simp only [maxLen] at hl0
 (refine WC.loopU (X := Nat) (fun k => [(8, dI (k : Int)), (2, dA), (5, dA), (9, dA), (10, dA), (11, dA), (12, dA), (13, dA), (14, dA), (15, dA), (16, dA)]) (fun k => []) (fun k => l.length - k) (fun k => k <= l.length /\ orI l = orI (l.drop k)) 0 ?start ?frame0 ?objs0 ?round)
 case start => exact ⟨Nat.zero_le _, rfl⟩
 case frame0 => ((try dsimp only [ZL, z0, z1]); repeat (first | exact LeF.nil | refine ZD (k := ?_)))
 case objs0 => rfl
 case round =>
  rintro k ⟨h1, h2⟩
  dsimp only [ZL, z0, z1]
  ((repeat' (first | (apply WL.opN; exact yF; dsimp only [ZB, z0, z1]) | refine WL.nil ?_ | refine ZA fun Kx hK => ?_ | (refine hK _ _ ?_; clear hK) | (refine Kont.skip ?_; clear hK) | refine WC.region ?_ | (apply WL.opN; (focus ((first | exact ZBu | exact yNeq | exact yAdd | exact ZT | fail); all_goals infer_instance)); dsimp only [ZB, z0, z1]) | (apply ZC; (exact oD); all_goals (intro h; try exact xD)) | (apply ZH; (exact oD); all_goals (intro h; try exact xD)) | refine WC.skip ?_ | refine WC.ret ?_ | refine WC.exit ?_ | refine WC.block ?_ | refine ThenD.n ?_ | refine ThenD.r ?_ | refine InBlockD.r ?_)); all_goals (first | ((repeat clear hK); (repeat clear Kx))))
  ·(refine ⟨trivial, _, rfl, ?_⟩; refine FinD.i ?_)
   rw [h2, orI_drop (by omega), if_neg h]
  ·(refine ⟨k + 1, ?_, by first | omega | (simp only; omega), rfl, ?_⟩; rotate_left; ((try dsimp only [ZL, z0, z1]); repeat (first | exact LeF.nil | refine ZD (k := ?_))); (try dsimp only))
   exact ⟨by omega, by rw [h2, orI_drop (by omega), if_pos h]⟩
  ·(refine ⟨trivial, _, rfl, ?_⟩; refine FinD.i ?_)
   rw [h2, List.drop_of_length_le (by omega)]; rfl
theorem cmpV_or (x y : Vx) : orI [cmpI x.1 y.1, cmpI x.2 y.2] = ZAX x y := by
 unfold ZAX cmpI orI orI orI
 repeat' split
 all_goals first | rfl | omega
theorem order_p (x y : Vx) : Fn Tryz.prog 120 [dS RV x, dS RV y] (dI (ZAX x y)) := by
 (refine ZE Tryz.func120 rfl rfl ?_; simp only [Tryz.ntmps120, List.length_cons, List.length_nil, Nat.reduceAdd, Nat.reduceSub, List.replicate_succ, List.replicate_zero, List.cons_append, List.nil_append])
 ((repeat' (first | ((first | apply WL.opN | apply WD.opN); exact yF; dsimp only [ZB, z0, z1]) | refine WL.nil ?_ | refine WD.nil ?_ | refine ZA fun Kx hK => ?_ | (refine hK _ _ ?_; clear hK) | refine WC.region ?_ | (apply WC.draw; kernel_rfl; kernel_rfl) | ((first | apply WL.opN | apply WD.opN); (focus ((first | (apply SY.call (cmpI_p _ _) Tryz.call150; (exact aD)) | (apply SY.call (orI_p [_, _]) Tryz.call149; (exact aD)) | exact Zx | exact ZCV | exact yBox | fail); all_goals infer_instance)); dsimp only [ZB, z0, z1]) | refine WC.ret ?_)); all_goals (first | ((repeat clear hK); (repeat clear Kx))))
 all_goals ((refine ⟨trivial, _, rfl, ?_⟩; refine FinD.i ?_); exact cmpV_or _ _)
set_option maxHeartbeats 4000000 in
theorem chk_p (s : List Vx) : Fn Tryz.prog 88 [dS ZF s] (dI (Zn s)) := by
 (refine ZE Tryz.func88 rfl rfl ?_; simp only [Tryz.ntmps88, List.length_cons, List.length_nil, Nat.reduceAdd, Nat.reduceSub, List.replicate_succ, List.replicate_zero, List.cons_append, List.nil_append])
 ((repeat' (first | ((first | apply WL.opN | apply WD.opN); exact yF; dsimp only [ZB, z0, z1]) | refine WL.nil ?_ | refine ZA fun Kx hK => ?_ | (refine hK _ _ ?_; clear hK) | refine WC.region ?_ | ((first | apply ZJ | apply WD.op); (focus (first | exact wN | (apply ZG; (exact wY); ((first | exact yGtr | exact yEql | exact ZBV | fail); all_goals infer_instance)))); dsimp only [ZB, z0, z1]) | (apply ZC; (exact oD); all_goals (intro h; try exact xD)) | refine WC.skip ?_ | refine WC.ret ?_ | refine WC.block ?_ | refine ThenD.r ?_ | refine InBlockD.r ?_)); all_goals (first | refine WC.id ?_ | ((repeat clear hK); (repeat clear Kx))))
 ·(refine ⟨trivial, _, rfl, ?_⟩; refine FinD.i ?_)
  unfold Zn; rw [if_pos (by omega)]
 ·(refine ⟨trivial, _, rfl, ?_⟩; refine FinD.i ?_)
  unfold Zn; rw [if_neg (by omega), if_pos (by omega)]
 ·rename_i h1 h2
  have hs : Zn s = chkG none s := by unfold Zn; rw [if_neg (by omega), if_neg (by omega)]
  (refine WC.loopU (X := Nat) (fun k => [(15, dI (k : Int)), (2, dA), (3, dA), (4, dA), (16, dA), (17, dA), (18, dA), (19, dA), (20, dA), (21, dA), (22, dA), (23, dA), (24, dA), (25, dA), (26, dA), (27, dA), (28, dA), (29, dA), (30, dA), (31, dA), (32, dA), (33, dA), (34, dA), (35, dA)]) (fun k => []) (fun k => s.length - k) (fun k => k <= s.length /\ Zn s = chkG (s.take k).getLast? (s.drop k)) 0 ?start ?frame0 ?objs0 ?round)
  case start => exact ⟨Nat.zero_le _, by rw [hs]; rfl⟩
  case frame0 => ((try dsimp only [ZL, z0, z1]); repeat (first | exact LeF.nil | refine ZD (k := ?_)))
  case objs0 => rfl
  case round =>
   rintro k ⟨h3, h4⟩
   dsimp only [ZL, z0, z1]
   ((repeat' (first | ((first | apply WL.opN | apply WD.opN); exact yF; dsimp only [ZB, z0, z1]) | refine WL.nil ?_ | refine WD.nil ?_ | refine ZA fun Kx hK => ?_ | (refine hK _ _ ?_; clear hK) | (refine Kont.skip ?_; clear hK) | refine WC.region ?_ | (apply WC.draw; kernel_rfl; kernel_rfl) | (apply WL.alloc; (exact tzV); (first | exact ZW rfl | exact Zs); (intro _; dsimp only [ZB, z0, z1])) | (apply WL.storeF; (exact tD); rfl; (exact oD); (exact hD); dsimp only [ZB, z0, z1]) | ((first | apply ZJ | apply WD.op); (focus (first | exact wN | (apply ZG; (exact wY); ((first | (apply SY.call (order_p _ _) Tryz.call120; (exact aD)) | (apply SY.call (possible_p _) Tryz.call122; (exact aD)) | (apply SY.ixKJ elV (OpD.t rfl) (OpD.t rfl) (k - 1); omega; omega) | exact yMove | exact ZBu | exact yGtr | exact yGeq | exact yNot | exact yAdd | exact ySub | exact yLoad | exact ZT | exact yPick | fail); all_goals infer_instance)))); dsimp only [ZB, z0, z1]) | ((first | refine Zd rfl rfl rfl (fun h => ?_) (fun h => ?_) | refine Zc rfl rfl rfl (fun h => ?_) (fun h => ?_) | refine ZY rfl rfl rfl (fun h => ?_) (fun h => ?_) | refine ZAf rfl rfl rfl (fun h => ?_) (fun h => ?_) | refine ZAh rfl rfl rfl (fun h => ?_) (fun h => ?_) | refine ZAD rfl rfl rfl (fun h => ?_) (fun h => ?_)) <;> (first | (exfalso; first | omega | contradiction) | (dsimp only [z0, z1]))) | (apply Zr; (exact oD); (with_reducible rfl)) | (apply ZC; (exact oD); all_goals (intro h; try exact xD)) | (apply Zk; (exact oD); all_goals (intro h; try exact xD)) | refine WC.skip ?_ | refine WC.ret ?_ | refine WC.exit ?_ | refine WC.block ?_ | refine ThenD.n ?_ | refine ThenD.r ?_ | refine InBlockD.r ?_)); all_goals (first | ((repeat clear hK); (repeat clear Kx))))
   all_goals try (rw [chkG_drop s k (by omega)] at h4)
   ·(refine ⟨trivial, _, rfl, ?_⟩; refine FinD.i ?_)
    rw [h4, if_pos h]
   ·(refine ⟨trivial, _, rfl, ?_⟩; refine FinD.i ?_)
    have h5 : rngV s[k] = true := by assumption
    rw [h4, if_neg (by simp [h5]), last_take _ _ (by omega) (by omega), if_pos (by simpa using h)]
   ·(refine ⟨k + 1, ?_, by first | omega | (simp only; omega), rfl, ?_⟩; rotate_left; ((try dsimp only [ZL, z0, z1]); repeat (first | exact LeF.nil | refine ZD (k := ?_))); (try dsimp only))
    refine ⟨by omega, ?_⟩
    have h5 : rngV s[k] = true := by assumption
    rw [h4, if_neg (by simp [h5]), last_take _ _ (by omega) (by omega), if_neg (by simpa using h)]
   ·(refine ⟨k + 1, ?_, by first | omega | (simp only; omega), rfl, ?_⟩; rotate_left; ((try dsimp only [ZL, z0, z1]); repeat (first | exact LeF.nil | refine ZD (k := ?_))); (try dsimp only))
    refine ⟨by omega, ?_⟩
    have h5 : rngV s[k] = true := by assumption
    have h0 : (s.take k).getLast? = none := by
     have : k = 0 := by omega
     rw [this]; rfl
    rw [h4, if_neg (by simp [h5]), h0]
    rfl
   ·(refine ⟨trivial, _, rfl, ?_⟩; refine FinD.i ?_)
    rw [h4, List.drop_of_length_le (by omega)]
    rfl
end
section
open Go.RowKit

theorem tyF : TyI Tryz.prog 47 1 false := ⟨by kernel_rfl, Tryz.isAgg47⟩
theorem tyFL : TyI Tryz.prog 105 1 false := ⟨by kernel_rfl, Tryz.isAgg105⟩
abbrev dPred (p : Vx -> Bool) : Dat := dFun Tryz.prog (fun v => [dS RV v]) (fun v => dB (p v))
def idxG {α : Type} (p : α -> Bool) : Nat -> List α -> Int
 | _, [] => -1
 | k, x :: l => if p x = true then (k : Int) else idxG p (k + 1) l
theorem ZCF {α : Type} {p : α -> Bool} {l : List α} {k : Nat} (h : k < l.length) : idxG p k (l.drop k) = if p l[k] = true then (k : Int) else idxG p (k + 1) (l.drop (k + 1)) := by
 rw [List.drop_eq_getElem_cons h]; rfl
theorem idxG_iff {α : Type} {p : α -> Bool} : ∀ (l : List α) (k : Nat), decide (0 <= idxG p k l) = l.any p
 | [], k => by simp [idxG]
 | x :: l, k => by
  unfold idxG
  rw [List.any_cons]
  split
  ·rename_i h; rw [h]; simp
  ·rename_i h; rw [idxG_iff l]; simp [h]
theorem idxF_p (l : List (Vx)) (p : Vx -> Bool) : Fn Tryz.prog 62 [dS ZF l, dPred p] (dI (idxG p 0 l)) := by
 (refine ZE Tryz.func62 rfl rfl ?_; simp only [Tryz.ntmps62, List.length_cons, List.length_nil, Nat.reduceAdd, Nat.reduceSub, List.replicate_succ, List.replicate_zero, List.cons_append, List.nil_append])
 (repeat' (first | (apply WL.opN; exact yF; dsimp only [ZB, z0, z1]) | refine WL.nil ?_ | refine ZA fun Kx hK => ?_ | (refine hK _ _ ?_; clear hK) | refine WC.region ?_ | (apply WL.opN; (focus ((first | exact ZBV | fail); all_goals infer_instance)); dsimp only [ZB, z0, z1]) | refine WC.block ?_))
 (first | refine ZR (t := 0) rfl le_K fun hl0 => ?_ | refine ZR (t := 0) rfl le_A fun hl0 => ?_); simp only [maxLen] at hl0
 (refine WC.loopU (X := Nat) (fun k => [(8, dI (k : Int)), (4, dA), (5, dA), (9, dA), (10, dA), (11, dA), (12, dA), (13, dA), (14, dA), (15, dA), (16, dA), (17, dA), (18, dA)]) (fun k => []) (fun k => l.length - k) (fun k => k <= l.length /\ idxG p 0 l = idxG p k (l.drop k)) 0 ?start ?frame0 ?objs0 ?round)
 case start => exact ⟨Nat.zero_le _, rfl⟩
 case frame0 => ((try dsimp only [ZL, z0, z1]); repeat (first | exact LeF.nil | refine ZD (k := ?_)))
 case objs0 => rfl
 case round =>
  rintro k ⟨h1, h2⟩
  dsimp only [ZL, z0, z1]
  ((repeat' (first | (apply WL.opN; exact yF; dsimp only [ZB, z0, z1]) | refine WL.nil ?_ | refine ZA fun Kx hK => ?_ | (refine hK _ _ ?_; clear hK) | (refine Kont.skip ?_; clear hK) | refine WC.region ?_ | (apply WL.opN; (focus ((first | exact ZBu | exact yAdd | exact ZT | exact yDyn | fail); all_goals infer_instance)); dsimp only [ZB, z0, z1]) | (apply ZC; (exact oD); all_goals (intro h; try exact xD)) | (apply WC.cond; (exact oD); all_goals (intro h; try exact xD)) | refine WC.skip ?_ | refine WC.ret ?_ | refine WC.exit ?_ | refine WC.block ?_ | refine ThenD.n ?_ | refine ThenD.r ?_ | refine InBlockD.r ?_)); all_goals (first | ((repeat clear hK); (repeat clear Kx))))
  ·(refine ⟨trivial, _, rfl, ?_⟩; refine FinD.i ?_)
   rw [h2, ZCF (by omega), if_pos h]
  ·(refine ⟨k + 1, ?_, by first | omega | (simp only; omega), rfl, ?_⟩; rotate_left; ((try dsimp only [ZL, z0, z1]); repeat (first | exact LeF.nil | refine ZD (k := ?_))); (try dsimp only))
   exact ⟨by omega, by rw [h2, ZCF (by omega), if_neg (by simp [h])]⟩
  ·(refine ⟨trivial, _, rfl, ?_⟩; refine FinD.i ?_)
   rw [h2, List.drop_of_length_le (by omega)]; rfl
theorem cntF_p (l : List Vx) (p : Vx -> Bool) : Fn Tryz.prog 20 [dS ZF l, dPred p] (dB (l.any p)) := by
 (refine ZE Tryz.func20 rfl rfl ?_; simp only [Tryz.ntmps20, List.length_cons, List.length_nil, Nat.reduceAdd, Nat.reduceSub, List.replicate_succ, List.replicate_zero, List.cons_append, List.nil_append])
 ((repeat' (first | (apply WL.opN; exact yF; dsimp only [ZB, z0, z1]) | refine WL.nil ?_ | refine ZA fun Kx hK => ?_ | (refine hK _ _ ?_; clear hK) | refine WC.region ?_ | (apply WL.opN; (focus ((first | (apply SY.call (idxF_p _ _) Tryz.call62; (exact aD)) | exact yGeq | fail); all_goals infer_instance)); dsimp only [ZB, z0, z1]) | refine WC.ret ?_)); all_goals (first | ((repeat clear hK); (repeat clear Kx))))
 all_goals ((refine ⟨trivial, _, rfl, ?_⟩; refine FinD.b ?_); exact idxG_iff _ _)
theorem idx_p (l : List Vx) (v : Vx) : Fn Tryz.prog 100 [dS ZF l, dS RV v] (dI (idxG (fun y => decide (v = y)) 0 l)) := by
 (refine ZE Tryz.func100 rfl rfl ?_; simp only [Tryz.ntmps100, List.length_cons, List.length_nil, Nat.reduceAdd, Nat.reduceSub, List.replicate_succ, List.replicate_zero, List.cons_append, List.nil_append])
 (repeat' (first | ((first | apply WL.opN | apply WD.opN); exact yF; dsimp only [ZB, z0, z1]) | refine WL.nil ?_ | refine ZA fun Kx hK => ?_ | (refine hK _ _ ?_; clear hK) | refine WC.region ?_ | ((first | apply WL.opN | apply WD.opN); (focus ((first | exact ZBV | exact yBox | fail); all_goals infer_instance)); dsimp only [ZB, z0, z1]) | refine WC.block ?_))
 (first | refine ZR (t := 0) rfl le_K fun hl0 => ?_ | refine ZR (t := 0) rfl le_A fun hl0 => ?_); simp only [maxLen] at hl0
 (refine WC.loopU (X := Nat) (fun k => [(8, dI (k : Int)), (4, dA), (5, dA), (9, dA), (10, dA), (11, dA), (12, dA), (13, dA), (14, dA), (15, dA), (16, dA), (17, dA), (18, dA)]) (fun k => []) (fun k => l.length - k) (fun k => k <= l.length /\ idxG (fun y => decide (v = y)) 0 l = idxG (fun y => decide (v = y)) k (l.drop k)) 0 ?start ?frame0 ?objs0 ?round)
 case start => exact ⟨Nat.zero_le _, rfl⟩
 case frame0 => ((try dsimp only [ZL, z0, z1]); repeat (first | exact LeF.nil | refine ZD (k := ?_)))
 case objs0 => rfl
 case round =>
  rintro k ⟨h1, h2⟩
  dsimp only [ZL, z0, z1]
  ((repeat' (first | ((first | apply WL.opN | apply WD.opN); exact yF; dsimp only [ZB, z0, z1]) | refine WL.nil ?_ | refine WD.nil ?_ | refine ZA fun Kx hK => ?_ | (refine hK _ _ ?_; clear hK) | (refine Kont.skip ?_; clear hK) | refine WC.region ?_ | (apply WC.draw; kernel_rfl; kernel_rfl) | ((first | apply WL.opN | apply WD.opN); (focus ((first | exact ZBu | exact yEql | exact yAdd | exact ZT | fail); all_goals infer_instance)); dsimp only [ZB, z0, z1]) | (apply ZC; (exact oD); all_goals (intro h; try exact xD)) | refine WC.skip ?_ | refine WC.ret ?_ | refine WC.exit ?_ | refine WC.block ?_ | refine ThenD.n ?_ | refine ThenD.r ?_ | refine InBlockD.r ?_)); all_goals (first | ((repeat clear hK); (repeat clear Kx))))
  ·(refine ⟨trivial, _, rfl, ?_⟩; refine FinD.i ?_)
   rw [h2, ZCF (by omega), if_pos (by simpa using h)]
  ·(refine ⟨k + 1, ?_, by first | omega | (simp only; omega), rfl, ?_⟩; rotate_left; ((try dsimp only [ZL, z0, z1]); repeat (first | exact LeF.nil | refine ZD (k := ?_))); (try dsimp only))
   exact ⟨by omega, by rw [h2, ZCF (by omega), if_neg (by simpa using h)]⟩
  ·(refine ⟨trivial, _, rfl, ?_⟩; refine FinD.i ?_)
   rw [h2, List.drop_of_length_le (by omega)]; rfl
end
section
open Go.RowKit

abbrev dPredOn (s : List Vx) (p : Vx -> Bool) : Dat := dFun Tryz.prog (fun v : {v : Vx // v ∈ s} => [dS RV v.1]) (fun v => dB (p v.1))
theorem le_predOn {s : List Vx} {p : Vx -> Bool} : (dPred p).le (dPredOn s p) := fun _ _ _ ⟨f, cap, h1, h0, h2⟩ => ⟨f, cap, h1, h0, fun w' hw' x => h2 w' hw' x.1⟩
theorem diffV_short : ∀ (s : List Vx), s.length <= 1 -> Zy s = true
 | [], _ => rfl
 | [_], _ => rfl
 | _ :: _ :: _, h => by simp at h
theorem chrom_p (s : List Vx) : Fn Tryz.prog 72 [dS ZF s] (dT [dB (chromV s).1, dI (chromV s).2]) := by
 (refine ZAa Tryz.func72 rfl rfl ?_; simp only [Tryz.ntmps72, List.length_cons, List.length_nil, Nat.reduceAdd, Nat.reduceSub, List.replicate_succ, List.replicate_zero, List.cons_append, List.nil_append])
 ((repeat' (first | ((first | apply WL.opN | apply WD.opN); exact yF; dsimp only [ZB, z0, z1]) | refine WL.nil ?_ | refine ZA fun Kx hK => ?_ | (refine hK _ _ ?_; clear hK) | refine WC.region ?_ | ((first | apply WL.opN | apply WD.opN); (focus ((first | (apply SY.call (chk_p _) Tryz.call88; (exact aD)) | exact yNeq | fail); all_goals infer_instance)); dsimp only [ZB, z0, z1]) | (apply ZH; (exact oD); all_goals (intro h; try exact xD)) | refine WC.skip ?_ | refine WC.ret ?_ | refine WC.block ?_ | refine ThenD.r ?_)); all_goals (first | refine WC.id ?_ | ((repeat clear hK); (repeat clear Kx))))
 ·(refine ⟨trivial, ⟨_, rfl, ?_⟩, _, rfl, ?_⟩ <;> (first | refine FinD.i ?_ | refine FinD.b ?_)) <;> ((unfold chromV; (repeat' split)) <;> (first | rfl | (exfalso; first | contradiction | omega) | (simp_all; done)))
 ·have h0 : Zn s = 0 := by assumption
  (first | refine ZR (t := 0) rfl le_K fun hl0 => ?_ | refine ZR (t := 0) rfl le_A fun hl0 => ?_); simp only [maxLen] at hl0
  (refine WC.loopU (X := Nat) (fun k => [(5, dI (k : Int)), (2, dA), (3, dA), (11, dA), (12, dA), (13, dA), (14, dA), (15, dA), (16, dA), (17, dA), (18, dA), (19, dA), (20, dA), (21, dA), (22, dA), (23, dA), (24, dA), (25, dA), (26, dA), (27, dA), (28, dA)]) (fun k => []) (fun k => s.length - k) (fun k => 1 <= k /\ Zy s = Zy (s.drop (k - 1))) 1 ?start ?frame0 ?objs0 ?round)
  case start => exact ⟨Nat.le_refl _, rfl⟩
  case frame0 => ((try dsimp only [ZL, z0, z1]); repeat (first | exact LeF.nil | refine ZD (k := ?_)))
  case objs0 => rfl
  case round =>
   rintro k ⟨h1, h2⟩
   dsimp only [ZL, z0, z1]
   ((repeat' (first | ((first | apply WL.opN | apply WD.opN); exact yF; dsimp only [ZB, z0, z1]) | refine WL.nil ?_ | refine WD.nil ?_ | refine ZA fun Kx hK => ?_ | (refine hK _ _ ?_; clear hK) | (refine Kont.skip ?_; clear hK) | refine WC.region ?_ | (apply WC.draw; kernel_rfl; kernel_rfl) | ((first | apply WL.opN | apply WD.opN); (focus ((first | (apply SY.ixKJ elV (OpD.t rfl) (OpD.t rfl) (k - 1); omega; omega) | exact ZBu | exact yEql | exact yAdd | exact ySub | exact ZBV | exact ZT | exact Zx | fail); all_goals infer_instance)); dsimp only [ZB, z0, z1]) | (apply ZC; (exact oD); all_goals (intro h; try exact xD)) | refine WC.skip ?_ | refine WC.ret ?_ | refine WC.exit ?_ | refine WC.block ?_ | refine ThenD.n ?_ | refine ThenD.r ?_ | refine InBlockD.r ?_)); all_goals (first | ((repeat clear hK); (repeat clear Kx))))
   ·rw [diffV_step h1 (by omega), if_pos h] at h2
    (refine ⟨trivial, ⟨_, rfl, ?_⟩, _, rfl, ?_⟩ <;> (first | refine FinD.i ?_ | refine FinD.b ?_)) <;> ((unfold chromV; (repeat' split)) <;> (first | rfl | (exfalso; first | contradiction | omega) | (simp_all; done)))
   ·rw [diffV_step h1 (by omega), if_neg h] at h2
    (refine ⟨k + 1, ?_, by first | omega | (simp only; omega), rfl, ?_⟩; rotate_left; ((try dsimp only [ZL, z0, z1]); repeat (first | exact LeF.nil | refine ZD (k := ?_))); (try dsimp only))
    exact ⟨by omega, h2⟩
   ·rw [diffV_short (s.drop (k - 1)) (by rw [List.length_drop]; omega)] at h2
    (refine ⟨trivial, ⟨_, rfl, ?_⟩, _, rfl, ?_⟩ <;> (first | refine FinD.i ?_ | refine FinD.b ?_)) <;> ((unfold chromV; (repeat' split)) <;> (first | rfl | (exfalso; first | contradiction | omega) | (simp_all; done)))
end
section
open Go.RowKit
def subB (s : Nat) : List Nat := ((List.range s).map (· + 1)).filter fun b => decide (b &&& s = b)
def ordN : Nat -> Nat -> List (List Nat)
 | 0, _ => [[]]
 | k + 1, s => if s = 0 then [[]] else (subB s).flatMap fun b => (ordN k (s - b)).map (b :: ·)
def ZBw (s : Nat) : List (List Nat) := ordN 6 s
def ZBa (s x : Nat) : Nat := ((List.range 32).find? fun y => decide (x < y) && decide (y &&& s = y)).getD 0
theorem andnot_sub : ∀ s b : Fin 32, b.val &&& s.val = b.val -> iandnot (s.val : Int) (b.val : Int) = ((s.val - b.val : Nat) : Int) /\ b.val <= s.val := by decide +kernel
theorem next_iand : ∀ s x : Fin 32, x.val &&& s.val = x.val -> x.val ≠ s.val -> iand ((x.val : Int) - (s.val : Int)) (s.val : Int) = (ZBa s.val x.val : Nat) := by decide +kernel
theorem first_iand : ∀ s : Fin 32, iand (0 - (s.val : Int)) (s.val : Int) = (ZBa s.val 0 : Nat) \/ s.val = 0 := by decide +kernel
theorem next_is : ∀ s x : Fin 32, x.val &&& s.val = x.val -> x.val ≠ s.val -> x.val < ZBa s.val x.val /\ ZBa s.val x.val <= s.val /\ ZBa s.val x.val &&& s.val = ZBa s.val x.val := by decide +kernel
def fromB (s x : Nat) : List Nat := (subB s).filter fun y => decide (x <= y)
theorem from_first : ∀ s : Fin 32, s.val ≠ 0 -> fromB s.val (ZBa s.val 0) = subB s.val := by decide +kernel
theorem from_next : ∀ s x : Fin 32, x.val ≠ 0 -> x.val &&& s.val = x.val -> x.val ≠ s.val -> fromB s.val x.val = x.val :: fromB s.val (ZBa s.val x.val) := by decide +kernel
theorem from_last : ∀ s : Fin 32, s.val ≠ 0 -> fromB s.val s.val = [s.val] := by decide +kernel
theorem sub_mem {s b : Nat} : b ∈ subB s ↔ 0 < b /\ b <= s /\ b &&& s = b := by
 unfold subB
 rw [List.mem_filter, List.mem_map, decide_eq_true_eq]
 constructor
 ·rintro ⟨⟨a, ha, rfl⟩, h⟩
  rw [List.mem_range] at ha
  exact ⟨by omega, by omega, h⟩
 ·rintro ⟨h1, h2, h3⟩
  exact ⟨⟨b - 1, by rw [List.mem_range]; omega, by omega⟩, h3⟩
theorem ordN_zero : ∀ k, ordN k 0 = [[]]
 | 0 => rfl
 | k + 1 => if_pos rfl
theorem ordN_succ {k s : Nat} (h : s ≠ 0) : ordN (k + 1) s = (subB s).flatMap fun b => (ordN k (s - b)).map (b :: ·) := if_neg h
end
section
def insS : List (Vx × List Vx) -> Vx -> List Vx -> List (Vx × List Vx)
 | [], v, c => [(v, c)]
 | (x, a) :: d, v, c => if ZAX v x < 0 then (v, c) :: (x, a) :: d else (x, a) :: insS d v c
def putS (d : List (Vx × List Vx)) (v : Vx) (c : List Vx) : List (Vx × List Vx) := if v ∈ d.map (·.1) then d else insS d v c
theorem insS_map (f : Vx -> List Vx) (v : Vx) : ∀ vs : List Vx, insS (vs.map fun u => (u, f u)) v (f v) = (insV vs v).map fun u => (u, f u)
 | [] => rfl
 | x :: vs => by
  show (if ZAX v x < 0 then _ else _) = _
  unfold insV
  split
  ·rfl
  ·rw [insS_map f v vs]; rfl
theorem putS_map (f : Vx -> List Vx) (v : Vx) (vs : List Vx) : putS (vs.map fun u => (u, f u)) v (f v) = (putV vs v).map fun u => (u, f u) := by
 have e : (vs.map fun u => (u, f u)).map (·.1) = vs := by
  rw [List.map_map]
  exact List.map_id' vs
 unfold putS putV
 rw [e]
 split
 ·rfl
 ·exact insS_map f v vs
theorem allS (f : Vx -> List Vx) : ∀ (L vs : List Vx), L.foldl (fun d v => putS d v (f v)) (vs.map fun u => (u, f u)) = (ZBF vs L).map fun u => (u, f u)
 | [], _ => rfl
 | v :: L, vs => by
  rw [List.foldl_cons, putS_map, allS f L]
  rfl
def ZB3 : List Nat -> Nat -> Nat -> Nat
 | [], _, m => m
 | b :: l, i, m => if (b >>> i) &&& 1 = 1 then m ||| b else ZB3 l i (m ||| b)
def ZAy (s : List Vx) (bl : List Nat) : List Vx := s.zipIdx.map fun p => (p.1.1, ((ZB3 bl p.2 0 : Nat) : Int))
def atB (s : List Vx) (m : Nat) : List Vx := (s.zipIdx.filter fun p => decide ((m >>> p.2) &&& 1 = 1)).map (·.1)
theorem Zj (s : List Vx) (bl : List Nat) : (ZAy s bl).length = s.length := by simp [ZAy]
end
section
def bitB (m i : Nat) : Bool := decide ((m >>> i) &&& 1 = 1)
end
end Go.Proofs.YtmcllakdbgnfiaaGreatDoor
