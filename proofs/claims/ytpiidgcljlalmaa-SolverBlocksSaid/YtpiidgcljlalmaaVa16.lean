/- Part 16: walks by contracts, and plain laws. -/
import Derived.Test.YtpiidgcljlalmaaVa15
set_option linter.unusedVariables false
set_option linter.unusedSimpArgs false
set_option linter.unusedSectionVars false
namespace Go.Proofs.Ytpiidgcljlalmaa
open Go.RowKit
open S43 (SS up addS startS beginS)
section
variable {P : Program} {ops : Array Oper} {hp : List HObj} {fr : List Dat} {Q : Post} {rest : List Oper} {T : TypeId} {b : Nat} {c : Code} {e : TypeId}
theorem WL.cellS {zs : List Value} (hn : 0 < zs.length) (h1 : ∀ c ∈ zs, c.oneCell' = true) (h : WL P ops Q rest fr (hStr b T (zs.map dX) :: hp)) : WL P ops Q rest fr (hCell b T zs.length true (dX (.agg zs.toArray)) :: hp) := WL.of fun P0 B w0 w a hh hf => by
  obtain ⟨cs, u, c1, c2, c0, c3, c4, c5⟩ := hh.ok (hCell b T zs.length true (dX (.agg zs.toArray))) (by simp)
  have hu : u = .agg zs.toArray := c5
  simp only [if_true] at c4
  rw [hu] at c4
  have hcs : zs = cs := by injection c4 with c4; exact List.toArray_inj c4
  subst hcs
  have hgr : w.grownBy w (hCell b T zs.length true (dX (.agg zs.toArray))).blk := ⟨rfl, rfl, rfl, Nat.le_refl _, fun _ _ _ => rfl⟩
  have hok : (hStr b T (zs.map dX)).ok (fun k => Imm P0 B (hCell b T zs.length true (dX (.agg zs.toArray)) :: hp) k ∧ k < w.heap.size) w :=
    ⟨zs, c1, by simp, h1, fun k c d hc hd => by
      rw [List.getElem?_map, hc] at hd
      cases hd
      rfl⟩
  exact h.on (hh.write hgr (.inl rfl) hok) (hf.mono fun _ _ hd => Hp.written (o' := hStr b T (zs.map dX)) hgr (.inl rfl) hd)
theorem WC.nilRows {ι : Type} : ∀ (L : List ι), WC P Q c fr (gO L (fun _ => nilV) e (fun _ => []) ++ hp) → WC P Q c fr hp
  | [], h => h
  | _ :: L, h => WC.nilRows L (WC.nilRow e RI h)
theorem perm_rlv {s r l v : HObj} : (s :: r :: l :: v :: hp).Perm (s :: v :: l :: r :: hp) :=
  List.Perm.cons s (((List.Perm.swap _ _ _).trans (List.Perm.cons _ (List.Perm.swap _ _ _))).trans (List.Perm.swap _ _ _))
end
def srch0 (n : Int) (bw bv bl br : Nat) : List Value := [.int .i64 n, nilV, .map (some bw), .map (some bv), .map (some bl), .map (some br), nilV, nilV, .int .i64 0, nilV, .int .i64 0, .bool false]
theorem mk_srch (n : Int) (bw bv bl br : Nat) (w : World) : (Instr.build 79 #[(0, .int .i64 n), (2, .map (some bw)), (3, .map (some bv)), (4, .map (some bl)), (5, .map (some br))]).run Try.prog w = .ok (.agg (srch0 n bw bv bl br).toArray) w := by
  unfold srch0
  go_simp
theorem SY.mkSr {ops : Array Oper} {hp : List HObj} {fr : List Dat} {dst : Option Tmp} {ty : TypeId} {ps : String} {af : Array Edge} {g : Option (Nat × Bool)} {x y1 y2 y3 y4 : Operand} {n : Int} {bw bv bl br : Nat} (hx : OpD fr x (dI n)) (h1 : OpD fr y1 (dX (.map (some bw)))) (h2 : OpD fr y2 (dX (.map (some bv)))) (h3 : OpD fr y3 (dX (.map (some bl)))) (h4 : OpD fr y4 (dX (.map (some br)))) :
    SY Try.prog ops hp { dst := dst, op := .build 79 #[(0, x), (2, y1), (3, y2), (4, y3), (5, y4)], type := ty, pos := ps, after := af, guard := g } fr (dX (.agg (srch0 n bw bv bl br).toArray)) := SY.val fun {I w a} ho => by
  have e0 : a.eval x = .int .i64 n := hx.get (by simp [Op.operands]) ho
  have e1 : a.eval y1 = _ := h1.get (by simp [Op.operands]) ho
  have e2 : a.eval y2 = _ := h2.get (by simp [Op.operands]) ho
  have e3 : a.eval y3 = _ := h3.get (by simp [Op.operands]) ho
  have e4 : a.eval y4 = _ := h4.get (by simp [Op.operands]) ho
  refine ⟨_, ?_, rfl⟩
  unfold execOp
  simp only [List.map_toArray, List.map_cons, List.map_nil, e0, e1, e2, e3, e4, Sem.run_bind, mk_srch, Result.andThen_ok, Sem.run_pure]
theorem srch0_one (n : Int) (bw bv bl br : Nat) : ∀ c ∈ srch0 n bw bv bl br, c.oneCell' = true := by
  unfold srch0
  simp [Value.oneCell']
abbrev Lay.wm (X : Lay) (y : Value × Value × (Nat → Value) × (Int → Value)) : Lay := { X with vT := y.1, vL := y.2.1, u := y.2.2.1, wv := y.2.2.2 }
abbrev lay0 (b bw bv bl br : Nat) : Lay := ⟨b, bw, bv, bl, br, 0, nilV, nilV, nilV, nilV, fun _ => nilV, fun _ => nilV⟩
theorem foldl_snoc {s : SS} {l : List S43.Cl} {i : Nat} (h : i < l.length) : (l.take (i + 1)).foldl addS s = addS ((l.take i).foldl addS s) l[i] := by
  rw [List.take_succ_eq_append_getElem h, List.foldl_append]; rfl
set_option linter.unusedSimpArgs false
set_option linter.unusedVariables false
set_option maxHeartbeats 2000000
set_option maxRecDepth 100000
set_option maxHeartbeats 8000000 in
theorem begin_c (V : Nat) (l : List S43.Cl) (hV : V ≤ 1000000) (hl : l.length ≤ 1000000) (hc : ∀ c ∈ l, (∀ x ∈ c, x ≠ 0 ∧ x.natAbs ≤ V) ∧ c.length ≤ 1000000) (hs : ∀ i, i ≤ l.length → ((l.take i).foldl addS startS).list.length ≤ 2000000000000 ∧ (∀ x, (((l.take i).foldl addS startS).watch x).length ≤ 2000000000000) ∧ ((l.take i).foldl addS startS).trail.length ≤ 1000000) :
    CallC Try.prog 47 ([dI (V : Int), dS Rows l] ++ ([] : List Value).map dX) [] (fun d hp2 => ∃ X : Lay, X.cf = 0 ∧ d = dX (ptrS X) ∧ hp2 = full X V (beginS l) ++ [oN X []]) := by
  (refine CallC.intro Try.func47 rfl rfl (fun hp => ?_); simp only [Try.ntmps47, List.length_cons, List.length_nil, List.length_append, List.length_map, Nat.reduceAdd, Nat.reduceSub, List.replicate_succ, List.replicate_zero, List.cons_append, List.nil_append, List.map_cons, List.map_nil, List.append_assoc])
  refine WC.nilRow 25 Ints (WC.nilRows (e := tI) (lits V) (WC.nilRow 25 RRow ?_))
  (repeat' (first | (apply WL.opN; exact yF; dsimp only [setD, z0, z1]) | refine WL.nil ?_ | refine WC.seqK fun Kx hK => ?_ | (refine hK _ _ ?_; clear hK) | refine WC.region ?_ |  (refine WL.makeG (dst := some 9) kvI is64 idV (pWat fun _ => nilV) (fun _ => rfl) fun bw => WL.nilRow tI RI (WL.nilRow tI RI ?_); dsimp only [setD, z0, z1]) |  (refine WL.makeG (dst := some 10) kvI is64 vvB (pVal fun _ => false) (fun _ => rfl) fun bv => ?_; dsimp only [setD, z0, z1]) |  (refine WL.makeG (dst := some 11) kvI is64 kvI (pLev fun _ => 0) (fun _ => rfl) fun bl => ?_; dsimp only [setD, z0, z1]) |  (refine WL.makeG (dst := some 12) kvI is64 kvI (pRea fun _ => none) (fun _ => rfl) fun br => ?_; dsimp only [setD, z0, z1]) |  (refine WL.boxC (n := 12) (agg := true) (OpD.t rfl) (fun _ _ _ q => by cases (q : _ = _); exact ⟨srch0 _ _ _ _ _, rfl, by decide, srch0_one _ _ _ _ _, rfl, rfl⟩) fun b => WL.cellS (zs := srch0 _ _ _ _ _) (by simp [srch0]) (srch0_one _ _ _ _ _) (WL.perm perm_rlv ?_); dsimp only [setD, z0, z1]) | (apply WL.opN; (focus ((first | (exact SY.mkSr (OpD.t rfl) (OpD.t rfl) (OpD.t rfl) (OpD.t rfl) (OpD.t rfl)) | (apply SY.len; (exact oD); (exact nD); (exact uD)) | fail); all_goals infer_instance)); dsimp only [setD, z0, z1]) | refine WC.block ?_))
  refine WC.perm (hp' := full (lay0 b bw bv bl br) V startS ++ (oN (lay0 b bw bv bl br) [] :: hp)) (List.Perm.of_eq (by rw [fullE]; rfl)) ?_
  (refine WC.loopU (X := Nat × Value × Value × (Nat → Value) × (Int → Value)) (fun x => [(17, dI (x.1 : Int)), (7, dA), (18, dA), (19, dA), (20, dA), (21, dA), (22, dA), (23, dA), (24, dA)]) (fun x => (full ((lay0 b bw bv bl br).wm x.2) V ((l.take x.1).foldl addS startS) ++ (oN (lay0 b bw bv bl br) [] :: hp))) (fun x => l.length - x.1) (fun x => x.1 ≤ l.length) (0, nilV, nilV, (fun _ => nilV), (fun _ => nilV)) ?start ?frame0 ?objs0 ?round)
  case start => exact Nat.zero_le _
  case frame0 => ((try dsimp only [upds, z0, z1]); repeat (first | exact LeF.nil | refine LeF.co (k := ?_)))
  case objs0 => rfl
  case round =>
    rintro ⟨i, y⟩ hi
    simp only at hi
    dsimp only [upds, z0, z1]
    by_cases hin : i < l.length
    · obtain ⟨h1, h2, h3⟩ := hs i hi
      have hcc := hc _ (List.getElem_mem hin)
      have hA := add_c ((lay0 b bw bv bl br).wm y) V ((l.take i).foldl addS startS) l[i] hV hcc.1 hcc.2 h1 h2 h3
      ((repeat' (first | (apply WL.opN; exact yF; dsimp only [setD, z0, z1]) | refine WL.nil ?_ | refine WC.seqK fun Kx hK => ?_ | (refine hK _ _ ?_; clear hK) | refine WC.region ?_ |  (refine WL.callC (hp1 := full _ _ _) (caps := []) hA Try.call73 OpD.f (by (exact aD)) ?_; rintro d' hp2 ⟨vT, vL, u, wv, rfl⟩; dsimp only [setD, z0, z1]) | (apply WL.opN; (focus ((first | (refine SY.ix (R := Ints) (_gR := inferInstance) (k := i) elSi (OpD.t rfl) (OpD.t rfl) hin) | ((first | apply SY.move | apply SY.assign | apply SY.lss) <;> (exact oD)) | ((first | apply SY.add) <;> first | exact oD | omega) | fail); all_goals infer_instance)); dsimp only [setD, z0, z1]) | (apply WC.condD; (exact oD); all_goals (intro h; try exact xD)) | refine WC.skip ?_ | refine WC.block ?_ | refine ThenD.n ?_)); all_goals (first | ((repeat clear hK); (repeat clear Kx))))
      all_goals try (exfalso; first | contradiction | omega)
      rw [← foldl_snoc hin]
      (refine ⟨(i + 1, vT, vL, u, wv), ?_, by first | omega | (simp only; omega), rfl, ?_⟩; rotate_left; ((try dsimp only [upds, z0, z1]); repeat (first | exact LeF.nil | refine LeF.co (k := ?_))); (try dsimp only))
      omega
    · obtain rfl : i = l.length := by omega
      ((repeat' (first | (apply WL.opN; exact yF; dsimp only [setD, z0, z1]) | refine WL.nil ?_ | refine WC.seqK fun Kx hK => ?_ | (refine hK _ _ ?_; clear hK) | (refine Kont.skip ?_; clear hK) | refine WC.region ?_ | (apply WL.opN; (focus ((first | ((first | apply SY.move | apply SY.assign | apply SY.lss) <;> (exact oD)) | fail); all_goals infer_instance)); dsimp only [setD, z0, z1]) | (apply WC.condD; (exact oD); all_goals (intro h; try exact xD)) | refine WC.ret ?_ | refine WC.exit ?_)); all_goals (first | ((repeat clear hK); (repeat clear Kx))))
      all_goals try (exfalso; first | contradiction | omega)
      rw [List.take_length]
      exact ⟨trivial, _, full ((lay0 b bw bv bl br).wm y) V (beginS l) ++ [oN ((lay0 b bw bv bl br).wm y) []], rfl, by simp [beginS], (lay0 b bw bv bl br).wm y, rfl, rfl, rfl⟩
end Go.Proofs.Ytpiidgcljlalmaa
namespace Go.Proofs.Ytpiidgcljlalmaa
open Go.RowKit
open S43 (SS up)
section
variable {P : Program} {ops : Array Oper} {hp : List HObj} {o : Oper} {fr : List Dat} {d : Dat} {Q : Post} {rest : List Oper} {c x1 x2 y : Code}
variable {dst : Option Tmp} {ty : TypeId} {ps : String} {af : Array Edge} {g : Option (Nat × Bool)} {T t e e' : TypeId} {bytes n : Nat} {z v : Value} {ag : Bool}
theorem SY.loadKn {x : Operand} {agg : Bool} (T' : TyI P T n agg) (hx : OpD fr x (dX v)) (hm : hKnow v (dP n agg d) ∈ hp) : SY P ops hp { dst := dst, op := .load T x, type := ty, pos := ps, after := af, guard := g } fr d := SY.valE fun {P0 B w0 w a} hh ho => by
  have h1 : a.eval x = v := hx.get (by simp [Op.operands]) ho
  obtain ⟨b, off, u, h2, hc, hd⟩ := (hh.ok _ hm : (dP n agg d).rd _ w v)
  refine ⟨u, w, ?_, Ext.refl _, hd⟩
  unfold execOp
  simp only [h1, h2, Sem.run_bind, run_loadC T' hc, Result.andThen_ok, Sem.run_pure]
theorem SY.loadRX {x : Operand} {k : Nat} {us : List Value} {u : Value} (T' : TyI P T 1 false) (hx : OpD fr x (dX (elemPtr v k))) (hm : hRow v e' RRow us ∈ hp) (hk : k < us.length) (hu : us[k] = u) :
    SY P ops hp { dst := dst, op := .load T x, type := ty, pos := ps, after := af, guard := g } fr (dX u) := by
  subst hu
  have := SY.loadR (P := P) (ops := ops) (hp := hp) (fr := fr) (dst := dst) (ty := ty) (ps := ps) (af := af) (g := g) (R := RRow) (_gR := inferInstance) T' hx hm hk
  exact ⟨fun hh ho K Q hK => this.out hh ho K Q fun v w' e hd => hK v w' e (le_RX _ _ _ hd)⟩
theorem SY.loadRE {x : Operand} {k : Nat} {xs : List Int} {i : Int} (T' : TyI P T 1 false) (hx : OpD fr x (dX (elemPtr v k))) (hm : hRow v e' RI xs ∈ hp) (hk : k < xs.length) (hu : xs[k] = i) :
    SY P ops hp { dst := dst, op := .load T x, type := ty, pos := ps, after := af, guard := g } fr (dI i) := hu ▸ SY.loadR T' hx hm hk
def JoinQ (F : List Dat) (H : List HObj) : Post := fun e f q => e = .normal ∧ q = H ∧ LeF f F
theorem WC.pinAt (t : Nat) (A B : List HObj) (ht : fr[t]? = some d) (hA : hp = A ++ B) (h : ∀ v, WC P Q c (fr.set t (dX v)) (A ++ hKnow v d :: B)) : WC P Q c fr hp := WC.pin t ht fun v => by
  subst hA
  exact WC.perm List.perm_middle.symm (h v)
theorem mT10 {o a0 a1 a2 a3 a4 a5 a6 a7 a8 a9 : HObj} {L B : List HObj} (h : o ∈ L) : o ∈ a0 :: a1 :: a2 :: a3 :: a4 :: a5 :: a6 :: a7 :: a8 :: a9 :: (L ++ B) := by
  simp only [List.mem_cons, List.mem_append]
  simp [h]
end
theorem from_zero {v : Value} : fromV v 0 = v := by
  unfold fromV
  split
  · rename_i b o s n cap
    simp
  · rfl
def fidx (p : Int → Bool) (l : List Int) : Int := match l.findIdx? p with
  | some n => (n : Int)
  | none => -1
theorem fidx_hit {p : Int → Bool} {l : List Int} {i : Nat} (hi : i < l.length) (h : p l[i] = true) (hn : ∀ j (hj : j < i), p (l[j]'(by omega)) = false) : fidx p l = (i : Int) := by
  have : l.findIdx? p = some i := List.findIdx?_eq_some_iff_getElem.2 ⟨hi, h, fun j hj => by simpa using hn j hj⟩
  unfold fidx
  rw [this]
theorem fidx_none {p : Int → Bool} {l : List Int} (hn : ∀ j (hj : j < l.length), p l[j] = false) : fidx p l = -1 := by
  have : l.findIdx? p = none := List.findIdx?_eq_none_iff.2 fun x hx => by
    obtain ⟨j, hj, rfl⟩ := List.getElem_of_mem hx
    exact hn j hj
  unfold fidx
  rw [this]
set_option linter.unusedSimpArgs false
set_option linter.unusedVariables false
set_option maxHeartbeats 2000000
set_option maxRecDepth 100000
set_option maxHeartbeats 4000000 in
theorem index_c (v : Value) (xs : List Int) (l : Nat) (hl : l ≤ xs.length) (hxl : xs.length ≤ 1000000) (gf : FuncId) (caps : List Value) (he : Enters Try.prog gf) (O : List HObj) (p : Int → Bool)
    (hcl : ∀ x ∈ xs.drop l, CallC Try.prog gf ([dI x] ++ caps.map dX) (hRow v tI RI xs :: O) (fun d hp2 => d = dB (p x) ∧ hp2 = hRow v tI RI xs :: O)) :
    CallC Try.prog 70 ([dX (fromV v l), dX (.func (.func gf) #[] caps.toArray)] ++ ([] : List Value).map dX) (hRow v tI RI xs :: O) (fun d hp2 => d = dI (fidx p (xs.drop l)) ∧ hp2 = hRow v tI RI xs :: O) := by
  (refine CallC.intro Try.func70 rfl rfl (fun hp => ?_); simp only [Try.ntmps70, List.length_cons, List.length_nil, List.length_append, List.length_map, Nat.reduceAdd, Nat.reduceSub, List.replicate_succ, List.replicate_zero, List.cons_append, List.nil_append, List.map_cons, List.map_nil, List.append_assoc])
  (repeat' (first | (apply WL.opN; exact yF; dsimp only [setD, z0, z1]) | refine WL.nil ?_ | refine WC.seqK fun Kx hK => ?_ | (refine hK _ _ ?_; clear hK) | refine WC.region ?_ | (apply WL.opN; (focus ((first | (exact SY.lenFrom Try.underlying25 (OpD.t rfl) (mAt 0 rfl) hl) | fail); all_goals infer_instance)); dsimp only [setD, z0, z1]) | refine WC.block ?_))
  (refine WC.loopU (X := Nat) (fun i => [(8, dI (i : Int)), (4, dA), (5, dA), (9, dA), (10, dA), (11, dA), (12, dA), (13, dA), (14, dA), (15, dA), (16, dA), (17, dA), (18, dA)]) (fun i => (hRow v tI RI xs :: (O ++ hp))) (fun i => xs.length - l - i) (fun i => i ≤ xs.length - l ∧ ∀ j (hj : j < i) (hjx : l + j < xs.length), p xs[l + j] = false) 0 ?start ?frame0 ?objs0 ?round)
  case start => exact ⟨Nat.zero_le _, fun j hj => absurd hj (Nat.not_lt_zero j)⟩
  case frame0 => ((try dsimp only [upds, z0, z1]); repeat (first | exact LeF.nil | refine LeF.co (k := ?_)))
  case objs0 => rfl
  case round =>
    rintro i ⟨hi, hno⟩
    dsimp only [upds, z0, z1]
    by_cases hin : l + i < xs.length
    · have hlt : (i : Int) < ((xs.length - l : Nat) : Int) := by omega
      have hmem : xs[l + i] ∈ xs.drop l := by
        rw [List.mem_iff_getElem]
        exact ⟨i, by rw [List.length_drop]; omega, by rw [List.getElem_drop]⟩
      have hC := hcl _ hmem
      ((repeat' (first | (apply WL.opN; exact yF; dsimp only [setD, z0, z1]) | refine WL.nil ?_ | refine WC.seqK fun Kx hK => ?_ | (refine hK _ _ ?_; clear hK) | refine WC.region ?_ |  (refine WL.callC (hp1 := hRow v tI RI xs :: O) (caps := caps) hC he (OpD.t rfl) (ArgsD.cons (OpD.t rfl) ArgsD.nil) ?_; rintro d' hp2 ⟨rfl, rfl⟩; dsimp only [setD, z0, z1, List.cons_append]) | (apply WL.opN; (focus ((first | (exact SY.ixFrom elI (OpD.t rfl) (mAt 0 rfl) (OpD.t rfl) rfl hin) | (exact SY.loadR tyI (OpD.t rfl) (mAt 0 rfl) hin) | ((first | apply SY.move | apply SY.assign | apply SY.lss) <;> (exact oD)) | ((first | apply SY.add) <;> first | exact oD | omega) | fail); all_goals infer_instance)); dsimp only [setD, z0, z1]) | (apply WC.condD; (exact oD); all_goals (intro h; try exact xD)) | (apply WC.cond; (exact oD); all_goals (intro h; try exact xD)) | refine WC.skip ?_ | refine WC.ret ?_ | refine WC.block ?_ | refine ThenD.n ?_ | refine ThenD.r ?_ | refine InBlockD.r ?_)); all_goals (first | ((repeat clear hK); (repeat clear Kx))))
      all_goals try (exfalso; first | contradiction | omega)
      · rename_i hp1
        refine ⟨trivial, _, hRow v tI RI xs :: O, rfl, rfl, ?_, rfl⟩
        have e1 : fidx p (xs.drop l) = (i : Int) := fidx_hit (by rw [List.length_drop]; omega) (by rw [List.getElem_drop]; first | exact hp1 | exact h) fun j hj => by rw [List.getElem_drop]; exact hno j hj (by omega)
        rw [e1]
      · rename_i hp1
        (refine ⟨i + 1, ?_, by first | omega | (simp only; omega), rfl, ?_⟩; rotate_left; ((try dsimp only [upds, z0, z1]); repeat (first | exact LeF.nil | refine LeF.co (k := ?_))); (try dsimp only))
        refine ⟨by omega, fun j hj hjx => ?_⟩
        by_cases hji : j = i
        · subst hji; first | exact hp1 | exact h
        · exact hno j (by omega) hjx
    · have hlt : ¬ (i : Int) < ((xs.length - l : Nat) : Int) := by omega
      ((repeat' (first | (apply WL.opN; exact yF; dsimp only [setD, z0, z1]) | refine WL.nil ?_ | refine WC.seqK fun Kx hK => ?_ | (refine hK _ _ ?_; clear hK) | (refine Kont.skip ?_; clear hK) | refine WC.region ?_ | (apply WL.opN; (focus ((first | ((first | apply SY.move | apply SY.assign | apply SY.lss) <;> (exact oD)) | fail); all_goals infer_instance)); dsimp only [setD, z0, z1]) | (apply WC.condD; (exact oD); all_goals (intro h; try exact xD)) | refine WC.ret ?_ | refine WC.exit ?_)); all_goals (first | ((repeat clear hK); (repeat clear Kx))))
      all_goals try (exfalso; first | contradiction | omega)
      refine ⟨trivial, _, hRow v tI RI xs :: O, rfl, rfl, ?_, rfl⟩
      have e1 : fidx p (xs.drop l) = -1 := fidx_none fun j hj => by
        rw [List.length_drop] at hj
        rw [List.getElem_drop]; exact hno j (by omega) (by omega)
      rw [e1]
theorem prop1_c (X : Lay) (V : Nat) (s : SS) (v1 : Value) (x : Int) (hx : x.natAbs ≤ 1000000) :
    CallC Try.prog 99 ([dI x] ++ [v1].map dX) [hKnow v1 (dP 1 false (dX (ptrS X))), oS X V s, oV X s] (fun d hp2 => d = dB (!s.val (-x)) ∧ hp2 = [hKnow v1 (dP 1 false (dX (ptrS X))), oS X V s, oV X s]) := by
  (refine CallC.intro Try.func99 rfl rfl (fun hp => ?_); simp only [Try.ntmps99, List.length_cons, List.length_nil, List.length_append, List.length_map, Nat.reduceAdd, Nat.reduceSub, List.replicate_succ, List.replicate_zero, List.cons_append, List.nil_append, List.map_cons, List.map_nil, List.append_assoc])
  have h6 : is64 (-x) := i64 (by omega)
  ((repeat' (first | (apply WL.opN; exact yF; dsimp only [setD, z0, z1]) | refine WL.nil ?_ | refine WC.seqK fun Kx hK => ?_ | (refine hK _ _ ?_; clear hK) | refine WC.region ?_ | (apply WL.opN; (focus ((first | (exact SY.loadKn tyC (OpD.t rfl) (mAt 0 rfl)) | (exact SY.nilCk (OpD.t rfl)) | (refine SY.fldS strS (OpD.t rfl) (by decide)) | (apply SY.loadS; exact tyF; exact OpD.t rfl; exact mAt 1 rfl; rfl) | (exact SY.neg (OpD.t rfl) (by omega)) | (exact SY.valG (OpD.t rfl) (mAt 2 rfl) (OpD.t rfl) h6) | ((first | apply SY.move | apply SY.assign | apply SY.not) <;> (exact oD)) | fail); all_goals infer_instance)); dsimp only [setD, z0, z1]) | refine WC.ret ?_)); all_goals (first | ((repeat clear hK); (repeat clear Kx))))
  exact ⟨trivial, _, [_, _, _], rfl, rfl, rfl, rfl⟩
end Go.Proofs.Ytpiidgcljlalmaa
namespace Go.Proofs.Ytpiidgcljlalmaa.S43
def pw (N : Nat) (l : List Nat) : Nat := (l.map fun x => 2 ^ (N - x)).sum
theorem pw_lt {N : Nat} : ∀ {l : List Nat} {a : Nat}, l.Pairwise (· < ·) → (∀ x ∈ l, a ≤ x ∧ x ≤ N) → a ≤ N + 1 → pw N l < 2 ^ (N + 1 - a)
  | [], a, _, _, _ => Nat.two_pow_pos _
  | x :: l, a, h, hr, ha => by
    obtain ⟨h1, h2⟩ := List.pairwise_cons.1 h
    obtain ⟨g1, g2⟩ := hr x (by simp)
    have ih := pw_lt (N := N) (a := x + 1) h2 (fun y hy => ⟨h1 y hy, (hr y (by simp [hy])).2⟩) (by omega)
    have e : pw N (x :: l) = 2 ^ (N - x) + pw N l := by unfold pw; rw [List.map_cons, List.sum_cons]
    rw [e, show N + 1 - (x + 1) = N - x by omega] at *
    have h3 : 2 ^ (N + 1 - x) = 2 ^ (N - x) + 2 ^ (N - x) := by
      rw [show N + 1 - x = (N - x) + 1 by omega, Nat.pow_succ]
      omega
    have h4 : 2 ^ (N + 1 - x) ≤ 2 ^ (N + 1 - a) := Nat.pow_le_pow_right (by decide) (by omega)
    omega
theorem pw_append (N : Nat) (a b : List Nat) : pw N (a ++ b) = pw N a + pw N b := by
  unfold pw
  rw [List.map_append, List.sum_append]
def exps (bs : List Nat) (n : Nat) : List Nat := (List.range n).map fun p => p + lvp bs p
theorem exps_asc (bs : List Nat) (n : Nat) : (exps bs n).Pairwise (· < ·) := by
  unfold exps
  refine List.pairwise_map.2 (List.Pairwise.imp (fun {a b} h => ?_) List.pairwise_lt_range)
  have := lvp_mono (bs := bs) (Nat.le_of_lt h)
  omega
theorem exps_le {bs : List Nat} {n K V : Nat} (hb : bs.length ≤ K) (hn : n ≤ V) : ∀ x ∈ exps bs n, x ≤ V + K := fun x hx => by
  obtain ⟨p, hp, rfl⟩ := List.mem_map.1 hx
  have := List.mem_range.1 hp
  have := lvp_le bs p
  omega
def mu (N : Nat) (bs : List Nat) (n : Nat) : Nat := pw N (exps bs n)
theorem mu_lt {bs : List Nat} {n K V : Nat} (hb : bs.length ≤ K) (hn : n ≤ V) : mu (V + K) bs n < 2 ^ (V + K + 1) :=
  pw_lt (a := 0) (exps_asc bs n) (fun x hx => ⟨Nat.zero_le _, exps_le hb hn x hx⟩) (Nat.zero_le _)
theorem mu_mono {N : Nat} {bs : List Nat} {n m : Nat} (h : n ≤ m) : mu N bs n ≤ mu N bs m := by
  obtain ⟨k, rfl⟩ : ∃ k, m = n + k := ⟨m - n, by omega⟩
  unfold mu exps
  rw [List.range_add, List.map_append, pw_append]
  omega
theorem mu_level {N : Nat} {bs : List Nat} {n b : Nat} (h : n ≤ b) : mu N (bs ++ [b]) n = mu N bs n := by
  unfold mu exps
  congr 1
  refine List.map_congr_left fun p hp => ?_
  have := List.mem_range.1 hp
  rw [lvp_append, lvp_none (bs := [b]) fun c hc => by rw [List.mem_singleton.1 hc]; omega, Nat.add_zero]
theorem mu_succ {N : Nat} {bs : List Nat} {n : Nat} : mu N bs (n + 1) = mu N bs n + 2 ^ (N - (n + lvp bs n)) := by
  unfold mu exps
  rw [List.range_succ, List.map_append, pw_append]
  congr 1
theorem mu_learn {bs : List Nat} {t K V l : Nat} (hs : bs.Pairwise (· ≤ ·)) (hl : l < bs.length) (hb : bs.length ≤ K) (ht : t ≤ V) (hbt : bs[l] ≤ t) : mu (V + K) bs t < mu (V + K) (bs.take l) (bs[l] + 1) := by
  have e1 : mu (V + K) (bs.take l) bs[l] = mu (V + K) bs bs[l] := by
    unfold mu exps
    congr 1
    refine List.map_congr_left fun p hp => ?_
    rw [lvp_take hs hl (List.mem_range.1 hp)]
  have e2 : lvp (bs.take l) bs[l] = l := by
    rw [lvp_all (sorted_take hs hl).1, List.length_take]
    omega
  rw [mu_succ, e1, e2]
  obtain ⟨k, rfl⟩ : ∃ k, t = bs[l] + k := ⟨t - bs[l], by omega⟩
  have e3 : mu (V + K) bs (bs[l] + k) = mu (V + K) bs bs[l] + pw (V + K) ((List.range k).map fun p => (bs[l] + p) + lvp bs (bs[l] + p)) := by
    unfold mu exps
    rw [List.range_add, List.map_append, pw_append, List.map_map]
    rfl
  rw [e3]
  have h1 := pw_lt (N := V + K) (l := (List.range k).map fun p => (bs[l] + p) + lvp bs (bs[l] + p)) (a := bs[l] + l + 1) (by
    refine List.pairwise_map.2 (List.Pairwise.imp (fun {a b} h => ?_) List.pairwise_lt_range)
    have := lvp_mono (bs := bs) (show bs[l] + a ≤ bs[l] + b by omega)
    omega) (fun x hx => by
    obtain ⟨p, hp, rfl⟩ := List.mem_map.1 hx
    have h2 := List.mem_range.1 hp
    have h3 := lvp_ge hs hl (show bs[l] ≤ bs[l] + p by omega)
    have h4 := lvp_le bs (bs[l] + p)
    exact ⟨by omega, by omega⟩) (by omega)
  rw [show V + K + 1 - (bs[l] + l + 1) = V + K - (bs[l] + l) by omega] at h1
  omega
def meas (V K : Nat) (bs : List Nat) (t : Nat) : Nat := (2 ^ (V + K + 1) - mu (V + K) bs t) * (K + 1) + (K - bs.length)
theorem meas_mu {V K : Nat} {bs bs' : List Nat} {t t' : Nat} (h : mu (V + K) bs t < mu (V + K) bs' t') (hb : bs'.length ≤ K) (ht : t' ≤ V) : meas V K bs' t' < meas V K bs t := by
  have h1 := mu_lt hb ht
  unfold meas
  have h2 : 2 ^ (V + K + 1) - mu (V + K) bs' t' + 1 ≤ 2 ^ (V + K + 1) - mu (V + K) bs t := by omega
  have h3 := Nat.mul_le_mul_right (K + 1) h2
  rw [Nat.add_mul] at h3
  omega
theorem meas_level {V K : Nat} {bs : List Nat} {t b : Nat} (h : t ≤ b) (hb : bs.length < K) : meas V K (bs ++ [b]) t < meas V K bs t := by
  unfold meas
  rw [mu_level h, List.length_append, List.length_singleton]
  omega
structure RS where
  s : SS
  learned : List Cl
structure GInv (V : Nat) (asm : List Int) (cls : List Cl) (r : RS) : Prop where
  inv : Inv V r.s r.s.watch fun _ => False
  list : SameC (cls ++ r.learned) r.s.list
  rup : ∀ (i : Nat) (c : Cl), r.learned[i]? = some c → Conf (cls ++ r.learned.take i) fun z => ∃ y ∈ c, z = -y
  dead : r.s.dead = true → Conf r.s.list fun _ => False
  dcs : ∀ x ∈ r.s.trail, r.s.rea x.natAbs = none → r.s.lev x.natAbs ≤ asm.length → x ∈ asm
  ast : ∀ (j : Nat) (x : Int), asm[j]? = some x → j < r.s.begins.length → x ∈ r.s.trail ∧ r.s.lev x.natAbs ≤ j + 1
  b1 : ∀ (j b : Nat), r.s.begins[j]? = some b → j ≤ asm.length + b
  b2 : r.s.begins.length ≤ asm.length + r.s.trail.length
  cnt : r.learned.length ≤ mu (V + (asm.length + V)) r.s.begins r.s.trail.length
theorem Conf.monoL {l l' : List Cl} {a : Int → Prop} (h : ∀ c ∈ l, ∃ c' ∈ l', c'.Perm c) (k : Conf l a) : Conf l' a := by
  have go : ∀ x, Der l a x → Der l' a x := fun x hx => by
    induction hx with
    | base q => exact .base q
    | step h1 h2 _ ih =>
      obtain ⟨c', c1, c2⟩ := h _ h1
      exact .step c1 (c2.mem_iff.2 h2) fun y hy hne => ih y (c2.mem_iff.1 hy) hne
  obtain ⟨c, hc, h1⟩ := k
  obtain ⟨c', c1, c2⟩ := h c hc
  exact ⟨c', c1, fun y hy => go _ (h1 y (c2.mem_iff.1 hy))⟩
theorem SameC.to {l l' : List Cl} (h : SameC l l') : ∀ c ∈ l, ∃ c' ∈ l', c'.Perm c := fun c hc => by
  obtain ⟨k, hk⟩ := mem_at.1 hc
  obtain ⟨c', c1, c2⟩ := h.2 k c hk
  exact ⟨c', List.mem_of_getElem? c1, c2⟩
theorem SameC.symm {l l' : List Cl} (h : SameC l l') : SameC l' l := ⟨h.1.symm, fun k c e => by
  have hk : k < l.length := by rw [h.1]; exact (List.getElem?_eq_some_iff.1 e).1
  obtain ⟨c', c1, c2⟩ := h.2 k l[k] (List.getElem?_eq_getElem hk)
  rw [e] at c1
  cases c1
  exact ⟨l[k], List.getElem?_eq_getElem hk, c2.symm⟩⟩
theorem SameC.snoc {l l' : List Cl} (h : SameC l l') {c c' : Cl} (hc : c'.Perm c) : SameC (l ++ [c]) (l' ++ [c']) := ⟨by simp [h.1], fun k x e => by
  rcases app_last e with ⟨q1, q2⟩ | ⟨rfl, rfl⟩
  · obtain ⟨y, y1, y2⟩ := h.2 k x q2
    exact ⟨y, by rw [List.getElem?_append_left (by rw [← h.1]; exact q1)]; exact y1, y2⟩
  · exact ⟨c', by rw [h.1]; exact app_at, hc⟩⟩
section
variable {V : Nat} {asm : List Int} {cls : List Cl} {r : RS}
theorem GInv.tl (h : GInv V asm cls r) : r.s.trail.length ≤ V := trail_len h.inv.trng h.inv.tdis
theorem GInv.bl (h : GInv V asm cls r) : r.s.begins.length ≤ asm.length + V := Nat.le_trans h.b2 (Nat.add_le_add_left h.tl _)
theorem GInv.prop (h : GInv V asm cls r) (hn : (propS (V + 1) r.s).2 = none) : GInv V asm cls ⟨(propS (V + 1) r.s).1, r.learned⟩ ∧ (propS (V + 1) r.s).1.head = (propS (V + 1) r.s).1.trail.length ∧ (propS (V + 1) r.s).1.begins = r.s.begins ∧ r.s.trail.length ≤ (propS (V + 1) r.s).1.trail.length ∧ (propS (V + 1) r.s).1.dead = r.s.dead := by
  obtain ⟨k, k2, _⟩ := prop_ok (V + 1) r.s h.inv (by omega)
  obtain ⟨i1, i2⟩ := k2 hn
  generalize (propS (V + 1) r.s).1 = s at *
  obtain ⟨t, ht⟩ := k.trail
  have hlv : ∀ x ∈ r.s.trail, s.lev x.natAbs = r.s.lev x.natAbs := fun x hx => by
    obtain ⟨p, hp⟩ := mem_at.1 hx
    have e := (List.getElem?_eq_some_iff.1 hp).1
    have hp' : s.trail[p]? = some x := by rw [ht, List.getElem?_append_left e]; exact hp
    rw [i1.lev p x hp', h.inv.lev p x hp, k.beg]
  have hlen : r.s.trail.length ≤ s.trail.length := by rw [ht, List.length_append]; omega
  refine ⟨⟨i1, h.list.trans k.same, h.rup, fun hd => ?_, fun x hx hr hle => ?_, fun j x e hj => ?_, fun j b e => ?_, ?_, ?_⟩, i2, k.beg, hlen, k.dead⟩
  · exact (h.dead (by rw [← k.dead]; exact hd)).monoL k.same.to
  · obtain ⟨g1, g2⟩ := k.rea x hx hr
    exact h.dcs x g1 g2 (by rw [← hlv x g1]; exact hle)
  · obtain ⟨g1, g2⟩ := h.ast j x e (by rw [← k.beg]; exact hj)
    exact ⟨by rw [ht]; exact List.mem_append_left _ g1, by rw [hlv x g1]; exact g2⟩
  · exact h.b1 j b (by rw [← k.beg]; exact e)
  · show s.begins.length ≤ asm.length + s.trail.length
    rw [k.beg]
    have := h.b2
    omega
  · show r.learned.length ≤ mu _ s.begins s.trail.length
    rw [k.beg]
    exact Nat.le_trans h.cnt (mu_mono hlen)
end
end Go.Proofs.Ytpiidgcljlalmaa.S43
