/- Part 9: walks by contracts, and plain laws. -/
import Derived.Test.YtjmignmnlpamjaaGreatProg
import Derived.Test.YtjmignmnlpamjaaGreatVa8
set_option linter.unusedVariables false
set_option linter.unusedSimpArgs false
set_option linter.unusedSectionVars false
set_option maxRecDepth 100000
set_option maxHeartbeats 4000000
namespace Go.Proofs.YtjmignmnlpamjaaGreat
section
open Go.RowKit
theorem mAt {hp : List HObj} {o : HObj} (i : Nat) (h : hp[i]? = some o) : o ∈ hp := List.mem_of_getElem? h
theorem ZAQ : ∀ {hp : List HObj} {i : Nat} {o : HObj}, hp[i]? = some o -> hp.Perm (o :: hp.eraseIdx i)
 | [], i, o, h => by simp at h
 | a :: hp, 0, o, h => by cases h; exact List.Perm.refl _
 | a :: hp, i + 1, o, h => by
  have := ZAQ (hp := hp) (i := i) (o := o) (by simpa using h)
  exact (List.Perm.cons a this).trans (List.Perm.swap _ _ _)
theorem ZCv : ∀ {hp : List HObj} {i : Nat} (_ : i < hp.length) (o' : HObj), (o' :: hp.eraseIdx i).Perm (hp.set i o')
 | [], i, h, o' => by simp at h
 | a :: hp, 0, h, o' => List.Perm.refl _
 | a :: hp, i + 1, h, o' => by
  have := ZCv (hp := hp) (i := i) (by simpa using h) o'
  exact (List.Perm.swap _ _ _).trans (List.Perm.cons a this)
section
variable {P : Program} {ops : Array Oper} {hp hp' : List HObj} {o : Oper} {fr : List Dat} {d d2 : Dat} {Q : ZAb} {rest : List Oper} {c : Code} {β : Type} {D : β -> Dat}
theorem SW.perm {H H' : β -> List HObj} (h1 : hp.Perm hp') (h2 : ∀ x, (H x).Perm (H' x)) (k : SW P ops hp' H D o fr) : SW P ops hp H' D o fr := ⟨k.guard, fun {P0 B w0 w a} hh hon K Q hk => by
 obtain ⟨hh1, hI⟩ := hh.perm h1
 refine k.out hh1 ⟨hon.1, fun t ht d hd => d.weak (hon.2 t ht d hd) fun j hj => (hI j).1 hj⟩ K Q fun x v w' hw hrd hd => ?_
 obtain ⟨hh2, hI2⟩ := hw.perm (h2 x)
 exact hk x v w' hh2 (fun d u hu => d.weak (hrd d u (d.weak hu fun j hj => (hI j).1 hj)) fun j hj => (hI2 j).1 hj) ((D x).weak hd fun j hj => (hI2 j).1 hj)⟩
theorem SW.at (i : Nat) {ob : HObj} {H : β -> HObj} (hi : hp[i]? = some ob) (k : ∀ q : List HObj, SW P ops (ob :: q) (fun x => H x :: q) D o fr) : SW P ops hp (fun x => hp.set i (H x)) D o fr :=
 SW.perm (ZAQ hi) (fun x => ZCv (List.getElem?_eq_some_iff.1 hi).1 (H x)) (k _)
theorem WL.swap (i : Nat) {ob ob' : HObj} (hi : hp[i]? = some ob) (k : ∀ q : List HObj, WL P ops Q rest fr (ob' :: q) -> WL P ops Q rest fr (ob :: q)) (h : WL P ops Q rest fr (hp.set i ob')) : WL P ops Q rest fr hp :=
 WL.perm (ZAQ hi) (k _ (WL.perm (ZCv (List.getElem?_eq_some_iff.1 hi).1 ob') h))
theorem ZKy {α : Type} {R : Rel α} {_gR : Good R} {v : Value} {e : TypeId} {xs : List α} {I : Nat -> Prop} {w : World} (h : (ZS v e R xs).ok I w) : v.oneCell' = true := by
 rcases ZDY h with ⟨rfl, _⟩ | ⟨b, cap, rfl, _⟩ <;> rfl
theorem ZBM {α : Type} {R : Rel α} {_gR : Good R} {v : Value} {e : TypeId} {xs : List α} (hm : ZS v e R xs ∈ hp) (h : v.oneCell' = true -> WL P ops Q rest fr hp) : WL P ops Q rest fr hp := WL.of fun _ _ _ _ _ hh hf => (h (ZKy (hh.ok _ hm))).on hh hf
theorem ZEN {α : Type} {R : Rel α} {_gR : Good R} {v : Value} {e : TypeId} {xs : List α} (hm : ZS v e R xs ∈ hp) (h : v.oneCell' = true -> WC P Q c fr hp) : WC P Q c fr hp := WC.of fun _ _ _ _ _ hh hf => (h (ZKy (hh.ok _ hm))).on hh hf
end
section
variable {P : Program} {ops : Array Oper} {hp : List HObj} {fr : List Dat} {d d2 : Dat} {Q : ZAb} {rest : List Oper}
variable {dst : Option Tmp} {ty : TypeId} {ps : String} {af : Array Edge} {t k e : TypeId} {z : Value} {K V : Type} [DecidableEq K] {kv : K -> Value} {ok : K -> Prop} {vv : V -> Value} {b : Nat} {p p' : (K -> Option V) -> Prop}
theorem ZA6 (p' : (K -> Option V) -> Prop) {x y c : Operand} {v : K} {u : V} (T : MapT P t k e z) (H : KeyT P k kv ok) (hx : OpD fr x (dX (.map (some b)))) (hy : OpD fr y d) (hd : IsV d (kv v)) (hc : OpD fr c d2) (hd2 : IsV d2 (vv u)) (ho : ok v) (hpp : ∀ f, p f -> p' (upF f v (some u))) :
  SW P ops (hG b kv ok vv p :: hp) (fun _ : Unit => hG b kv ok vv p' :: hp) (fun _ => dX undef) ⟨dst, .mapUpdate t x y c, ty, ps, af, none⟩ fr := ⟨rfl, fun {P0 B w0 w a} hh hon KK QQ hkk => by
 obtain ⟨f, m, cl, hp, hm1, hm2⟩ := hh.ok (hG b kv ok vv p) (by simp)
 obtain ⟨m', cl', hm', hrun⟩ := ZIX (dst := dst) (ty := ty) (ps := ps) (af := af) (g := none) T H (hx.get (by simp [Op.operands]) hon) (hd.is _ _ _ (hy.get (by simp [Op.operands]) hon)) (hd2.is _ _ _ (hc.get (by simp [Op.operands]) hon)) ho hm1 hm2
 unfold Oper.wp
 rw [hrun]
 exact hkk () _ _ (ZHP hh (hpp f hp) hm') (fun d u hd => ZDe hd) rfl⟩
theorem ZJg (p' : (K -> Option V) -> Prop) {x y c : Operand} {v : K} {u : V} (T : MapT P t k e z) (H : KeyT P k kv ok) (hx : OpD fr x (dX (.map (some b)))) (hy : OpD fr y d) (hd : IsV d (kv v)) (hc : OpD fr c d2) (hd2 : IsV d2 (vv u)) (ho : ok v) (hpp : ∀ f, p f -> p' (upF f v (some u))) :
  SW P ops (hG b kv ok vv p :: hp) (fun _ : Unit => hG b kv ok vv p' :: hp) (fun _ => dX undef) ⟨dst, .insert t x y c, ty, ps, af, none⟩ fr := ⟨rfl, fun {P0 B w0 w a} hh hon KK QQ hkk => by
 obtain ⟨f, m, cl, hp, hm1, hm2⟩ := hh.ok (hG b kv ok vv p) (by simp)
 obtain ⟨m', cl', hm', hrun⟩ := ZIX (dst := dst) (ty := ty) (ps := ps) (af := af) (g := none) T H (hx.get (by simp [Op.operands]) hon) (hd.is _ _ _ (hy.get (by simp [Op.operands]) hon)) (hd2.is _ _ _ (hc.get (by simp [Op.operands]) hon)) ho hm1 hm2
 unfold Oper.wp
 have e : (execOp a.eval ⟨dst, .insert t x y c, ty, ps, af, none⟩) = execOp a.eval ⟨dst, .mapUpdate t x y c, ty, ps, af, none⟩ := rfl
 rw [e, hrun]
 exact hkk () _ _ (ZHP hh (hpp f hp) hm') (fun d u hd => ZDe hd) rfl⟩
theorem ZDf (p' : (K -> Option V) -> Prop) {x y : Operand} {v : K} (T : MapT P t k e z) (H : KeyT P k kv ok) (hx : OpD fr x (dX (.map (some b)))) (hy : OpD fr y d) (hd : IsV d (kv v)) (ho : ok v) (hpp : ∀ f, p f -> p' (upF f v none)) :
  SW P ops (hG b kv ok vv p :: hp) (fun _ : Unit => hG b kv ok vv p' :: hp) (fun _ => dA) ⟨dst, .call { callee := .builtin .delete, args := #[x, y], argTypes := #[t, k] }, ty, ps, af, none⟩ fr := ⟨rfl, fun {P0 B w0 w a} hh hon KK QQ hkk => by
 have h1 : a.eval x = _ := hx.get (by simp [Op.operands, Call.operands]) hon
 have h2 := hd.is _ _ _ (hy.get (by simp [Op.operands, Call.operands]) hon)
 obtain ⟨f, m, cl, hp, hm1, hm2⟩ := hh.ok (hG b kv ok vv p) (by simp)
 obtain ⟨m', cl', hm', hr⟩ := ZMH (ty := ty) T H ho hm1 hm2
 have hrun : (execOp a.eval ⟨dst, .call { callee := .builtin .delete, args := #[x, y], argTypes := #[t, k] }, ty, ps, af, none⟩).run P w = .ok (.value (.tuple #[])) (w.putObj b (.map (ZC8 kv vv m').toArray cl')) := by
  unfold execOp
  simp [resolve, invoke, builtin, h1, h2, hr, Result.andThen]
 unfold Oper.wp
 rw [hrun]
 exact hkk () _ _ (ZHP hh (hpp f hp) hm') (fun d u hd => ZDe hd) trivial⟩
end
section
variable {P : Program} {ops : Array Oper} {hp : List HObj} {fr : List Dat} {d : Dat} {dst : Option Tmp} {ty : TypeId} {ps : String} {af : Array Edge} {T T1 T2 e : TypeId} {b k : Nat} {ds : List Dat}
theorem SW.storeS {t : Nat} {x : Operand} (T' : TyI P T1 1 false) (hp0 : OpD fr (.tmp t) (dX (.pointer (some ⟨b, k, none⟩)))) (hx : OpD fr x d) (hs : d.Shape 1 false) (hk : k < ds.length) :
  SW P ops (ZBx b T2 ds :: hp) (fun _ : Unit => ZBx b T2 (ds.set k d) :: hp) (fun _ => dX undef) ⟨dst, .store T1 (.tmp t) x, ty, ps, af, none⟩ fr := ⟨rfl, fun {P0 B w0 w a} hh hon KK QQ hkk => by
 obtain ⟨cs, c1, c2, c3, c4⟩ := hh.ok (ZBx b T2 ds) (by simp)
 have h1 : a.eval (.tmp t) = _ := hp0.get (by simp [Op.operands]) hon
 have hd : d.rd (Imm P0 B (ZBx b T2 ds :: hp)) w (a.eval x) := hx.get (by simp [Op.operands]) hon
 obtain ⟨us, u1, u0, u2, u3, u4⟩ := hs _ _ _ hd
 obtain ⟨u, rfl⟩ : ∃ u, us = [u] := List.length_eq_one_iff.1 u1
 have hu : a.eval x = u := by
  simp only [Bool.false_eq_true, if_false] at u4
  exact (List.cons.inj u4).1.symm
 have hone : u.oneCell' = true := u2 u (by simp)
 have hdu : d.rd (Imm P0 B (ZBx b T2 ds :: hp)) w u := by rw [hu] at hd; exact hd
 have hkc : k < cs.length := by omega
 have hset := setCell_eq_setRow w b k cs.toArray T2 (0, 0) u c1
 have hc : w.cell? ⟨b, k, none⟩ = some cs[k] := by simp [World.cell?, c1, hkc]
 have hfz : w.frozen? ⟨b, k, none⟩ = false := by simp [World.frozen?, c1]
 have hst : (store ((⟨b, k, none⟩ : Addr).add 0) u).run P w = .ok () (w.setCell ⟨b, k, none⟩ u) := by
  rw [show ((⟨b, k, none⟩ : Addr).add 0) = ⟨b, k, none⟩ from rfl, run_store P w _ u _ hone, hc]
  simp [hfz]
 have hsz : (sizeOf T1).run P w = .ok 1 w := by
  have h5 := T'.size
  cases hq : P.info? T1 with
  | none => rw [hq] at h5; cases h5
  | some i =>
   rw [hq] at h5
   have : i.size = 1 := by simpa using h5
   rw [<- this]
   rw [run_sizeOf w hq]
   simp [Program.cellsOf, hq]
 have hw : w.setCell ⟨b, k, none⟩ u = w.setRow b (cs.set k u).toArray := by rw [hset]; simp
 have hrun : (execOp a.eval ⟨dst, .store T1 (.tmp t) x, ty, ps, af, none⟩).run P w = .ok .skip (w.setRow b (cs.set k u).toArray) := by
  rw [<- hw]
  unfold execOp
  simp only [h1, hu, Instr.storeAt, Instr.sureAddr, storeVar, Sem.run_bind, hsz, Result.andThen_ok, Sem.run_pure]
  simp [ZCC hone, storeCells, hst]
 unfold Oper.wp
 rw [hrun]
 have hgr : w.grownBy (w.setRow b (cs.set k u).toArray) (ZBx b T2 ds).blk := ZBV
 have hok : (ZBx b T2 (ds.set k d)).ok (fun j => Imm P0 B (ZBx b T2 ds :: hp) j /\ j < w.heap.size) (w.setRow b (cs.set k u).toArray) := by
  refine ⟨cs.set k u, setRow_heap w b _ _ _ _ c1, by simp [c2], fun c hc => ?_, fun j c e hc he => ?_⟩
  ·rcases List.mem_or_eq_of_mem_set hc with hc | rfl
   ·exact c3 c hc
   ·exact hone
  ·rw [List.getElem?_set] at hc he
   by_cases hjk : k = j
   ·rw [if_pos hjk, if_pos (by omega)] at hc he
    cases hc; cases he
    exact d.grown (d.bound hdu) hgr fun j q hj => hj.1.2 (ZBx b T2 ds) (by simp) q
   ·rw [if_neg hjk] at hc he
    exact e.grown (e.bound (c4 j c e hc he)) hgr fun j q hj => hj.1.2 (ZBx b T2 ds) (by simp) q
 exact hkk () _ _ (hh.write hgr (.inl rfl) hok) (fun d' u hd => Z9 (o' := ZBx b T2 (ds.set k d)) hgr (.inl rfl) hd) rfl⟩
theorem SW.storeR {α : Type} {R : Rel α} {_gR : Good R} {xs : List α} {v : Value} {p : Tmp} {x : Operand} {k : Nat} {y : α} (T' : TyI P T 1 false) (hp0 : OpD fr (.tmp p) (dX (ZBD v k))) (hx : OpD fr x (dS R y)) (hs : (dS R y).Shape 1 false) (hk : k < xs.length) :
  SW P ops (ZS v e R xs :: hp) (fun _ : Unit => ZS v e R (xs.set k y) :: hp) (fun _ => dX undef) ⟨dst, .store T (.tmp p) x, ty, ps, af, none⟩ fr := ⟨rfl, fun {P0 B w0 w a} hh hon KK QQ hkk => by
 have hok := hh.ok (ZS v e R xs) (by simp)
 have hy : R (Imm P0 B (ZS v e R xs :: hp)) w (a.eval x) y := hx.get (by simp [Op.operands]) hon
 obtain ⟨cs, k1, k0, k2, k3, k4⟩ := hs _ _ _ hy
 have h1 : a.eval (.tmp p) = ZBD v k := hp0.get (by simp [Op.operands]) hon
 have hone : (a.eval x).oneCell' = true := by
  have : cs = [a.eval x] := by simpa using k4
  subst this
  exact k2 _ (by simp)
 have hy' : R (fun j => (Imm P0 B (ZS v e R xs :: hp) j /\ j < w.heap.size) /\ v.ownBlock ≠ some j) w (a.eval x) y :=
  Good.weak (Good.bound hy) fun j hj => ⟨hj, hj.1.2 (ZS v e R xs) (by simp)⟩
 obtain ⟨b, cap, hv, hst, hok', hgr, hob⟩ := ZKl (P := P) ((ZS v e R xs).bound hok) hk hone hy'
 have hrun : (execOp a.eval ⟨dst, .store T (.tmp p) x, ty, ps, af, none⟩).run P w = .ok .skip (w.setCell ⟨b, k, none⟩ (a.eval x)) := by
  have he : a.eval (.tmp p) = .pointer (some ⟨b, k, none⟩) := by rw [h1, hv]; rfl
  unfold execOp
  have hsz : (sizeOf T).run P w = .ok 1 w := by
   have h5 := T'.size
   cases hq : P.info? T with
   | none => rw [hq] at h5; cases h5
   | some i =>
    rw [hq] at h5
    have : i.size = 1 := by simpa using h5
    rw [<- this]
    rw [run_sizeOf w hq]
    simp [Program.cellsOf, hq]
  simp only [he, Instr.storeAt, Instr.sureAddr, storeVar, Sem.run_bind, hsz, Result.andThen_ok, Sem.run_pure]
  simp [ZCC hone, storeCells, hst]
 unfold Oper.wp
 rw [hrun]
 have hgr' : w.grownBy (w.setCell ⟨b, k, none⟩ (a.eval x)) (ZS v e R xs).blk := by
  show w.grownBy _ v.ownBlock
  rw [hob]; exact hgr
 exact hkk () _ _ (hh.write hgr' (.inl rfl) hok') (fun d' u hd => Z9 (o' := ZS v e R (xs.set k y)) hgr' (.inl rfl) hd) rfl⟩
end
end
section
open Go.RowKit
theorem elI : ElT Tryz.prog 25 3 1 (.int .i64 0) 8 false := ⟨Tryz.underlying25, by kernel_rfl, Tryz.isAgg3, rfl⟩
end
section
open Go.RowKit
theorem ZB7 : ElT Tryz.prog 22 25 1 (.slice none 0 0) 24 false := ⟨Tryz.underlying22, by kernel_rfl, Tryz.isAgg25, rfl⟩
theorem tyI : TyI Tryz.prog 3 1 false := ⟨by kernel_rfl, Tryz.isAgg3⟩
theorem tyE : TyI Tryz.prog 28 1 false := ⟨by kernel_rfl, Tryz.isAgg28⟩
theorem ZAl : TyI Tryz.prog 25 1 false := ⟨by kernel_rfl, Tryz.isAgg25⟩
theorem ZCz : TyI Tryz.prog 22 1 false := ⟨by kernel_rfl, Tryz.isAgg22⟩
theorem tyC : TyI Tryz.prog 65 1 false := ⟨by kernel_rfl, Tryz.isAgg65⟩
theorem tyF : TyI Tryz.prog 101 1 false := ⟨by kernel_rfl, Tryz.isAgg101⟩
theorem ZBi : TyI Tryz.prog 87 1 false := ⟨by kernel_rfl, Tryz.isAgg87⟩
theorem ZK9 : TyI Tryz.prog 100 1 false := ⟨by kernel_rfl, Tryz.isAgg100⟩
theorem ZBs : TyI Tryz.prog 4 1 false := ⟨by kernel_rfl, Tryz.isAgg4⟩
theorem tyV : TyI Tryz.prog 24 2 true := ⟨by kernel_rfl, Tryz.isAgg24⟩
theorem eqBB : ∀ (x y : Operand) (p q : Bool) w, (do eqGuard .eql 4 x y (.bool p) (.bool q); Go.binOp .eql 4 (.bool p) (.bool q)).run Tryz.prog w = .ok (.bool (p == q)) w := by
 intro x y p q w; cases p <;> cases q <;> go_simp
theorem ZN7 : ∀ (x y : Operand) ad m c w, (do eqGuard .eql 25 x y (.slice ad m c) (.slice none 0 0); Go.binOp .eql 25 (.slice ad m c) (.slice none 0 0)).run Tryz.prog w = .ok (.bool ad.isNone) w := by
 intro x y ad m c w
 cases ad <;> (go_simp; try (unfold Go.binOp; simp only; unfold Op.equal Op.maxDepth Op.equalIn; simp [run_underlying Tryz.underlying25]))
def ZAF (n : Int) : Prop := -9223372036854775808 ≤ n /\ n ≤ 9223372036854775807
theorem wf64 {n : Int} (h : ZAF n) : (Lit.int .i64 n).wf = true := by
 obtain ⟨h1, h2⟩ := h
 show (decide (IntKind.i64.min ≤ n) && decide (n ≤ IntKind.i64.max)) = true
 have e1 : IntKind.i64.min = -9223372036854775808 := by decide
 have e2 : IntKind.i64.max = 9223372036854775807 := by decide
 rw [e1, e2, decide_eq_true h1, decide_eq_true h2]; rfl
abbrev kvI : Int -> Value := fun n => Value.int .i64 n
abbrev vvB : Bool -> Value := fun n => Value.bool n
theorem ZAP : KeyT Tryz.prog 3 kvI ZAF where
 law := Go.Maps.int_keyed Tryz.underlying3
 lit := fun n h => ⟨_, Go.Maps.keyOf_int_mk Tryz.underlying3 (wf64 h)⟩
 inj := fun x y _ _ h => by injection h
theorem ZCk : MapT Tryz.prog 101 3 4 (.bool false) := ⟨Tryz.underlying101, fun w => by kernel_rfl⟩
theorem ZCl : MapT Tryz.prog 87 3 3 (.int .i64 0) := ⟨Tryz.underlying87, fun w => by kernel_rfl⟩
theorem ZGv : MapT Tryz.prog 100 3 25 (.slice none 0 0) := ⟨Tryz.underlying100, fun w => by kernel_rfl⟩
theorem ZAz : StrT Tryz.prog 103 12 := ⟨fun b off i w hi => by
 match i, hi with
 | 0, _ => go_simp
 | 1, _ => go_simp
 | 2, _ => go_simp
 | 3, _ => go_simp
 | 4, _ => go_simp
 | 5, _ => go_simp
 | 6, _ => go_simp
 | 7, _ => go_simp
 | 8, _ => go_simp
 | 9, _ => go_simp
 | 10, _ => go_simp
 | 11, _ => go_simp⟩
def R2 {α β : Type} (R : Rel α) (S : Rel β) : Rel (α × β) := fun P w v x => ∃ u u', v = .agg #[u, u'] /\ u.oneCell' = true /\ u'.oneCell' = true /\ R P w u x.1 /\ S P w u' x.2
instance {α β : Type} (R : Rel α) (S : Rel β) [Good R] [Good S] : Good (R2 R S) where
 weak := fun ⟨u, u', h1, h0, h0', h2, h3⟩ q => ⟨u, u', h1, h0, h0', Good.weak h2 q, Good.weak h3 q⟩
 move := fun ⟨u, u', h1, h0, h0', h2, h3⟩ q => ⟨u, u', h1, h0, h0', Good.move h2 q, Good.move h3 q⟩
 bound := fun ⟨u, u', h1, h0, h0', h2, h3⟩ => ⟨u, u', h1, h0, h0', Good.bound h2, Good.bound h3⟩
abbrev Cls : Rel (Int × List (List Int)) := R2 RI Rows
theorem ZBo {α β : Type} {R : Rel α} {S : Rel β} [Good R] [Good S] {x : α × β} : (dS (R2 R S) x).Shape 2 true := fun _ _ _ h => by
 obtain ⟨u, u', rfl, h0, h0', _, _⟩ := h
 exact ⟨[u, u'], rfl, by omega, fun c hc => by
  simp only [List.mem_cons, List.not_mem_nil, or_false] at hc
  rcases hc with rfl | rfl <;> assumption, rfl, rfl⟩
structure ColT (P : Program) (T : TypeId) : Prop where
 fld0 : ∀ b off w, (Instr.fieldAt T (.pointer (some ⟨b, off, none⟩)) 0).run P w = .ok (.pointer (some ⟨b, off + 0, none⟩)) w
 fld1 : ∀ b off w, (Instr.fieldAt T (.pointer (some ⟨b, off, none⟩)) 1).run P w = .ok (.pointer (some ⟨b, off + 1, none⟩)) w
 mkp : ∀ n a' n' c' w, (Instr.build T #[(0, .int .i64 n), (1, .slice a' n' c')]).run P w = .ok (.agg #[.int .i64 n, .slice a' n' c']) w
theorem clT : ColT Tryz.prog 24 := by
 constructor
 ·intro b off w; go_simp
 ·intro b off w; go_simp
 ·intro n a' n' c' w; go_simp
theorem tzV : TyZ Tryz.prog 24 (.agg #[.int .i64 0, .slice none 0 0]) := ⟨by kernel_rfl⟩
section
variable {P : Program} {ops : Array Oper} {hp : List HObj} {fr : List Dat} {d : Dat} {Q : ZAb} {rest : List Oper}
variable {dst : Option Tmp} {ty : TypeId} {ps : String} {af : Array Edge} {g : Option (Nat × Bool)} {T : TypeId} (V : ColT P T)
include V
theorem ZT {α β : Type} {R : Rel α} {S : Rel β} {_gR : Good R} {_gS : Good S} {x : Operand} {p : α × β} (hx : OpD fr x (dP 2 true (dS (R2 R S) p))) : SY P ops hp ⟨dst, .fieldAddr T x 0, ty, ps, af, g⟩ fr (dP 1 false (dS R p.1)) := SY.val fun {I w a} ho => by
 obtain ⟨b, off, u, h1, ⟨hb, cs, k1, k0, k2, k3, k4⟩, v0, v1, hu, q0, q1, q2, q3⟩ := hx.get (by simp [Op.operands]) ho
 simp only [if_true] at k4
 rw [k4] at hu
 have hcs : cs = [v0, v1] := by injection hu with hu; exact List.toArray_inj hu
 subst hcs
 refine ⟨_, ?_, b, off + 0, v0, rfl, ⟨hb, [v0], rfl, Nat.one_pos, by simp [q0], fun j c hc => ?_, rfl⟩, q2⟩
 ·unfold execOp
  simp only [h1, Sem.run_bind, V.fld0, Result.andThen_ok, Sem.run_pure]
 ·have hj : j = 0 := by have := (List.getElem?_eq_some_iff.1 hc).1; simpa using this
  subst hj
  cases hc
  exact k3 0 _ rfl
theorem ZU {α β : Type} {R : Rel α} {S : Rel β} {_gR : Good R} {_gS : Good S} {x : Operand} {p : α × β} (hx : OpD fr x (dP 2 true (dS (R2 R S) p))) : SY P ops hp ⟨dst, .fieldAddr T x 1, ty, ps, af, g⟩ fr (dP 1 false (dS S p.2)) := SY.val fun {I w a} ho => by
 obtain ⟨b, off, u, h1, ⟨hb, cs, k1, k0, k2, k3, k4⟩, v0, v1, hu, q0, q1, q2, q3⟩ := hx.get (by simp [Op.operands]) ho
 simp only [if_true] at k4
 rw [k4] at hu
 have hcs : cs = [v0, v1] := by injection hu with hu; exact List.toArray_inj hu
 subst hcs
 refine ⟨_, ?_, b, off + 1, v1, rfl, ⟨hb, [v1], rfl, Nat.one_pos, by simp [q1], fun j c hc => ?_, rfl⟩, q3⟩
 ·unfold execOp
  simp only [h1, Sem.run_bind, V.fld1, Result.andThen_ok, Sem.run_pure]
 ·have hj : j = 0 := by have := (List.getElem?_eq_some_iff.1 hc).1; simpa using this
  subst hj
  cases hc
  exact k3 1 _ rfl
end
section
variable {P : Program} {ops : Array Oper} {hp : List HObj} {fr : List Dat} {dst : Option Tmp} {ty : TypeId} {ps : String} {af : Array Edge} {g : Option (Nat × Bool)}
theorem ZFl {x y : Operand} {m n : Int} {ats : Array TypeId} (hx : OpD fr x (dI m)) (hy : OpD fr y (dI n)) : SY P ops hp ⟨dst, .call { callee := .builtin .min, args := #[x, y], argTypes := ats }, ty, ps, af, g⟩ fr (dI (if n < m then n else m)) :=
 SY.val fun {I w a} ho => ⟨.int .i64 (if n < m then n else m), by
  have h1 : a.eval x = .int .i64 m := hx.get (by simp [Op.operands, Call.operands]) ho
  have h2 : a.eval y = .int .i64 n := hy.get (by simp [Op.operands, Call.operands]) ho
  unfold execOp
  simp [resolve, invoke, builtin, h1, h2, Builtin.min_, Builtin.min2], rfl⟩
theorem ZMu {x y : Operand} {m n : Int} {ats : Array TypeId} (hx : OpD fr x (dI m)) (hy : OpD fr y (dI n)) : SY P ops hp ⟨dst, .call { callee := .builtin .max, args := #[x, y], argTypes := ats }, ty, ps, af, g⟩ fr (dI (if m < n then n else m)) :=
 SY.val fun {I w a} ho => ⟨.int .i64 (if m < n then n else m), by
  have h1 : a.eval x = .int .i64 m := hx.get (by simp [Op.operands, Call.operands]) ho
  have h2 : a.eval y = .int .i64 n := hy.get (by simp [Op.operands, Call.operands]) ho
  unfold execOp
  simp [resolve, invoke, builtin, h1, h2, Builtin.max_, Builtin.max2], rfl⟩
end
end
end Go.Proofs.YtjmignmnlpamjaaGreat
namespace Go.Proofs.YtjmignmnlpamjaaGreat.S43
section
abbrev Cl := List Int
def up {α β : Type} [DecidableEq α] (f : α -> β) (a : α) (b : β) : α -> β := fun x => if x = a then b else f x
theorem up_eq {α β : Type} [DecidableEq α] (f : α -> β) (a : α) (b : β) : up f a b a = b := if_pos rfl
theorem up_ne {α β : Type} [DecidableEq α] {f : α -> β} {a x : α} {b : β} (h : x ≠ a) : up f a b x = f x := if_neg h
structure SS where
 list : List Cl
 watch : Int -> List Nat
 val : Int -> Bool
 lev : Nat -> Nat
 rea : Nat -> Option Nat
 trail : List Int
 begins : List Nat
 head : Nat
 dead : Bool
def lvp (bs : List Nat) (p : Nat) : Nat := (bs.filter fun b => decide (b ≤ p)).length
theorem ZIR (bs : List Nat) (p : Nat) : lvp bs p ≤ bs.length := List.length_filter_le _ _
theorem ZCj {bs : List Nat} {p : Nat} (h : ∀ b ∈ bs, b ≤ p) : lvp bs p = bs.length := by
 unfold lvp
 rw [List.filter_eq_self.2 fun b hb => decide_eq_true (h b hb)]
theorem ZBe {bs : List Nat} {p q : Nat} (h : p ≤ q) : lvp bs p ≤ lvp bs q := by
 unfold lvp
 induction bs with
 | nil => simp
 | cons b bs ih =>
  rw [List.filter_cons, List.filter_cons]
  by_cases h1 : b ≤ p
  ·rw [if_pos (decide_eq_true h1), if_pos (decide_eq_true (Nat.le_trans h1 h))]
   simpa using ih
  ·rw [if_neg (by simpa using h1)]
   split
   ·simp only [List.length_cons]; omega
   ·exact ih
theorem ZBA (asm bs : List Nat) (p : Nat) : lvp (asm ++ bs) p = lvp asm p + lvp bs p := by
 unfold lvp
 rw [List.filter_append, List.length_append]
theorem ZDW {bs : List Nat} {p : Nat} (h : ∀ b ∈ bs, p < b) : lvp bs p = 0 := by
 unfold lvp
 rw [List.filter_eq_nil_iff.2 fun b hb => by have := h b hb; simp; omega]
 rfl
theorem ZCT {bs : List Nat} (hs : bs.Pairwise (· ≤ ·)) {l : Nat} (h : l < bs.length) : (∀ b ∈ bs.take l, b ≤ bs[l]) /\ ∀ b ∈ bs.drop l, bs[l] ≤ b := by
 constructor
 ·intro b hb
  obtain ⟨i, hi, rfl⟩ := List.mem_iff_getElem.1 hb
  rw [List.length_take] at hi
  rw [List.getElem_take]
  exact List.pairwise_iff_getElem.1 hs i l (by omega) h (by omega)
 ·intro b hb
  obtain ⟨i, hi, rfl⟩ := List.mem_iff_getElem.1 hb
  rw [List.length_drop] at hi
  rw [List.getElem_drop]
  by_cases e : i = 0
  ·subst e; exact Nat.le_refl _
  ·exact List.pairwise_iff_getElem.1 hs l (l + i) h (by omega) (by omega)
theorem ZF7 {bs : List Nat} (hs : bs.Pairwise (· ≤ ·)) {l : Nat} (h : l < bs.length) {p : Nat} (hp : p < bs[l]) : lvp (bs.take l) p = lvp bs p := by
 conv => rhs; rw [<- List.take_append_drop l bs]
 rw [ZBA, ZDW (bs := bs.drop l) fun b hb => by have := (ZCT hs h).2 b hb; omega]
 rfl
theorem ZOD {bs : List Nat} (hs : bs.Pairwise (· ≤ ·)) {l : Nat} (h : l < bs.length) {p : Nat} (hp : p < bs[l]) : lvp bs p ≤ l := by
 rw [<- ZF7 hs h hp]
 have := ZIR (bs.take l) p
 rw [List.length_take] at this
 omega
theorem ZMg {bs : List Nat} (hs : bs.Pairwise (· ≤ ·)) {l : Nat} (h : l < bs.length) {p : Nat} (hp : bs[l] ≤ p) : l + 1 ≤ lvp bs p := by
 have e : bs = bs.take (l + 1) ++ bs.drop (l + 1) := (List.take_append_drop _ _).symm
 have h1 : lvp (bs.take (l + 1)) p = l + 1 := by
  rw [ZCj, List.length_take]
  ·omega
  ·intro b hb
   obtain ⟨i, hi, rfl⟩ := List.mem_iff_getElem.1 hb
   rw [List.length_take] at hi
   rw [List.getElem_take]
   by_cases e : i = l
   ·subst e; exact hp
   ·exact Nat.le_trans (List.pairwise_iff_getElem.1 hs i l (by omega) h (by omega)) hp
 rw [e, ZBA, h1]
 omega
theorem ZL2 {bs : List Nat} {p : Nat} (h : lvp bs p = 0) : ∀ b ∈ bs, p < b := by
 unfold lvp at h
 have := List.filter_eq_nil_iff.1 (List.length_eq_zero_iff.1 h)
 intro b hb
 have := this b hb
 simp at this
 exact this
theorem Z2 {α : Type} {t : List α} {h : Nat} {x : α} : x ∈ t.take h ↔ ∃ p, p < h /\ t[p]? = some x := by
 constructor
 ·intro hx
  obtain ⟨i, hi, rfl⟩ := List.mem_iff_getElem.1 hx
  rw [List.length_take] at hi
  exact ⟨i, by omega, by rw [List.getElem_take, List.getElem?_eq_getElem (by omega)]⟩
 ·rintro ⟨p, hp, e⟩
  obtain ⟨h1, rfl⟩ := List.getElem?_eq_some_iff.1 e
  exact List.mem_iff_getElem.2 ⟨p, by rw [List.length_take]; omega, List.getElem_take ..⟩
theorem ZBy {α : Type} {t : List α} {x : α} : x ∈ t ↔ ∃ p : Nat, t[p]? = some x := List.mem_iff_getElem?
structure Inv0 (V : Nat) (s : SS) (W : Int -> List Nat) : Prop where
 rng : ∀ c ∈ s.list, ∀ x ∈ c, x ≠ 0 /\ x.natAbs ≤ V
 dis : ∀ c ∈ s.list, c.Pairwise fun x y => x.natAbs ≠ y.natAbs
 trng : ∀ x ∈ s.trail, x ≠ 0 /\ x.natAbs ≤ V
 tdis : s.trail.Pairwise fun x y => x.natAbs ≠ y.natAbs
 val : ∀ x, s.val x = true ↔ x ∈ s.trail
 bs : s.begins.Pairwise (· ≤ ·)
 bh : ∀ b ∈ s.begins, b ≤ s.head
 hl : s.head ≤ s.trail.length
 lev : ∀ p x, s.trail[p]? = some x -> s.lev x.natAbs = lvp s.begins p
 un : ∀ v, (∀ x ∈ s.trail, x.natAbs ≠ v) -> s.rea v = none /\ s.lev v = 0
 rea : ∀ p x, s.trail[p]? = some x -> ∀ r, s.rea x.natAbs = some r -> ∃ c, s.list[r]? = some c /\ x ∈ c /\ ∀ y ∈ c, y ≠ x -> -y ∈ s.trail.take p
 dec : ∀ p x, s.trail[p]? = some x -> s.rea x.natAbs = none -> p ∈ s.begins
 wok : ∀ k a b r, s.list[k]? = some (a :: b :: r) -> k ∈ W a /\ k ∈ W b
 wmem : ∀ l k, k ∈ W l -> ∃ a b r, s.list[k]? = some (a :: b :: r) /\ (a = l \/ b = l)
 wnd : ∀ l, (W l).Nodup
 unit : s.dead = false -> ∀ a, [a] ∈ s.list -> a ∈ s.trail /\ s.lev a.natAbs = 0
 emp : [] ∈ s.list -> s.dead = true
structure Inv (V : Nat) (s : SS) (W : Int -> List Nat) (E : Nat -> Prop) : Prop extends Inv0 V s W where
 two : ∀ k a b r, s.list[k]? = some (a :: b :: r) -> ∀ h, h ≤ s.head -> (E k -> h < s.head) -> (-a ∈ s.trail.take h -> b ∈ s.trail /\ s.lev b.natAbs ≤ s.lev a.natAbs) /\ (-b ∈ s.trail.take h -> a ∈ s.trail /\ s.lev a.natAbs ≤ s.lev b.natAbs)
section
variable {V : Nat} {s : SS} {W : Int -> List Nat} {E : Nat -> Prop}
theorem ZKE {t : List Int} (h : t.Pairwise fun x y => x.natAbs ≠ y.natAbs) {p q : Nat} {x y : Int} (hp : t[p]? = some x) (hq : t[q]? = some y) (e : x.natAbs = y.natAbs) : p = q := by
 obtain ⟨h1, rfl⟩ := List.getElem?_eq_some_iff.1 hp
 obtain ⟨h2, rfl⟩ := List.getElem?_eq_some_iff.1 hq
 rcases Nat.lt_trichotomy p q with h3 | h3 | h3
 ·exact absurd e (List.pairwise_iff_getElem.1 h p q h1 h2 h3)
 ·exact h3
 ·exact absurd e.symm (List.pairwise_iff_getElem.1 h q p h2 h1 h3)
theorem ZKD {t : List Int} (h : t.Pairwise fun x y => x.natAbs ≠ y.natAbs) {x y : Int} (hp : x ∈ t) (hq : y ∈ t) (e : x.natAbs = y.natAbs) : x = y := by
 obtain ⟨p, hp⟩ := ZBy.1 hp
 obtain ⟨q, hq⟩ := ZBy.1 hq
 have := ZKE h hp hq e
 subst this
 rw [hp] at hq
 exact Option.some.inj hq
theorem Inv.no_both (h : Inv V s W E) {x : Int} (h1 : x ∈ s.trail) : -x ∉ s.trail := fun h2 => by
 have e := ZKD h.tdis h1 h2 (by rw [Int.natAbs_neg])
 have := (h.trng x h1).1
 omega
def Zq (s : SS) (l : Int) (r : Option Nat) : SS :=
 { s with val := up s.val l true, lev := up s.lev l.natAbs s.begins.length, rea := (match r with | some k => up s.rea l.natAbs (some k) | none => s.rea), trail := s.trail ++ [l] }
theorem Inv0.assign (h : Inv0 V s W) {l : Int} {r : Option Nat} (hu : ∀ x ∈ s.trail, x.natAbs ≠ l.natAbs) (hl : l ≠ 0 /\ l.natAbs ≤ V)
  (hr : ∀ k, r = some k -> ∃ c, s.list[k]? = some c /\ l ∈ c /\ ∀ y ∈ c, y ≠ l -> -y ∈ s.trail) (hn : r = none -> s.trail.length ∈ s.begins) : Inv0 V (Zq s l r) W := by
 have hold : ∀ p x, (s.trail ++ [l])[p]? = some x -> (s.trail[p]? = some x /\ x.natAbs ≠ l.natAbs /\ p < s.trail.length) \/ (p = s.trail.length /\ x = l) := fun p x e => by
  by_cases hp : p < s.trail.length
  ·rw [List.getElem?_append_left hp] at e
   exact .inl ⟨e, hu x (List.mem_of_getElem? e), hp⟩
  ·rw [List.getElem?_append_right (by omega)] at e
   have h1 := (List.getElem?_eq_some_iff.1 e).1
   simp only [List.length_singleton] at h1
   have hp0 : p - s.trail.length = 0 := by omega
   rw [hp0] at e
   exact .inr ⟨by omega, by simpa using e.symm⟩
 have htake : ∀ q, q ≤ s.trail.length -> (s.trail ++ [l]).take q = s.trail.take q := fun q hq => by
  rw [List.take_append_of_le_length hq]
 have hlev : ∀ y : Int, (y ∈ s.trail \/ -y ∈ s.trail) -> up s.lev l.natAbs s.begins.length y.natAbs = s.lev y.natAbs := fun y hy => up_ne (by
  rcases hy with hy | hy
  ·exact hu y hy
  ·have := hu (-y) hy
   rwa [Int.natAbs_neg] at this)
 exact {
  rng := h.rng
  dis := h.dis
  trng := fun x hx => by
   rcases List.mem_append.1 hx with hx | hx
   ·exact h.trng x hx
   ·rw [List.mem_singleton.1 hx]; exact hl
  tdis := List.pairwise_append.2 ⟨h.tdis, by simp, fun x hx y hy => by rw [List.mem_singleton.1 hy]; exact hu x hx⟩
  val := fun x => by
   show up s.val l true x = true ↔ x ∈ s.trail ++ [l]
   rw [List.mem_append, List.mem_singleton]
   by_cases e : x = l
   ·rw [e, up_eq]; simp
   ·rw [up_ne e, h.val]; simp [e]
  bs := h.bs
  bh := h.bh
  hl := by
   show s.head ≤ (s.trail ++ [l]).length
   have := h.hl
   simp only [List.length_append, List.length_singleton]
   omega
  lev := fun p x e => by
   show up s.lev l.natAbs s.begins.length x.natAbs = lvp s.begins p
   rcases hold p x e with ⟨e1, e2, _⟩ | ⟨rfl, rfl⟩
   ·rw [up_ne e2]; exact h.lev p x e1
   ·rw [up_eq, ZCj fun b hb => Nat.le_trans (h.bh b hb) h.hl]
  un := fun v hv => by
   have hv1 : ∀ x ∈ s.trail, x.natAbs ≠ v := fun x hx => hv x (List.mem_append_left _ hx)
   have hv2 : v ≠ l.natAbs := fun e => hv l (List.mem_append_right _ (List.mem_singleton.2 rfl)) e.symm
   obtain ⟨h1, h2⟩ := h.un v hv1
   refine ⟨?_, ?_⟩
   ·show (match r with | some k => up s.rea l.natAbs (some k) | none => s.rea) v = none
    cases r with
    | none => exact h1
    | some k => exact (up_ne hv2).trans h1
   ·exact (up_ne hv2).trans h2
  rea := fun p x e q hq => by
   rcases hold p x e with ⟨e1, e2, e3⟩ | ⟨rfl, rfl⟩
   ·have hq' : s.rea x.natAbs = some q := by
     cases r with
     | none => exact hq
     | some k => exact (up_ne e2).symm.trans hq
    obtain ⟨c, c1, c2, c3⟩ := h.rea p x e1 q hq'
    refine ⟨c, c1, c2, fun y hy hne => ?_⟩
    show -y ∈ (s.trail ++ [l]).take p
    rw [htake p (by omega)]
    exact c3 y hy hne
   ·cases r with
    | none => exact absurd hq (by rw [show (Zq s x none).rea = s.rea from rfl, (h.un _ hu).1]; simp)
    | some k =>
     have hk : k = q := Option.some.inj ((up_eq s.rea x.natAbs (some k)).symm.trans hq)
     subst hk
     obtain ⟨c, c1, c2, c3⟩ := hr k rfl
     refine ⟨c, c1, c2, fun y hy hne => ?_⟩
     show -y ∈ (s.trail ++ [x]).take s.trail.length
     rw [htake _ (Nat.le_refl _), List.take_length]
     exact c3 y hy hne
  dec := fun p x e hq => by
   rcases hold p x e with ⟨e1, e2, _⟩ | ⟨rfl, rfl⟩
   ·refine h.dec p x e1 ?_
    cases r with
    | none => exact hq
    | some k => exact (up_ne e2).symm.trans hq
   ·cases r with
    | none => exact hn rfl
    | some k => exact absurd ((up_eq s.rea x.natAbs (some k)).symm.trans hq) (by simp)
  wok := h.wok
  wmem := h.wmem
  wnd := h.wnd
  unit := fun hd a ha => by
   obtain ⟨g1, g2⟩ := h.unit hd a ha
   exact ⟨List.mem_append_left _ g1, by show up s.lev l.natAbs s.begins.length a.natAbs = 0; rw [hlev a (.inl g1)]; exact g2⟩
  emp := h.emp }
theorem Inv.assign (h : Inv V s W E) {l : Int} {r : Option Nat} (hu : ∀ x ∈ s.trail, x.natAbs ≠ l.natAbs) (hl : l ≠ 0 /\ l.natAbs ≤ V)
  (hr : ∀ k, r = some k -> ∃ c, s.list[k]? = some c /\ l ∈ c /\ ∀ y ∈ c, y ≠ l -> -y ∈ s.trail) (hn : r = none -> s.trail.length ∈ s.begins) : Inv V (Zq s l r) W E := by
 have htake : ∀ q, q ≤ s.trail.length -> (s.trail ++ [l]).take q = s.trail.take q := fun q hq => by
  rw [List.take_append_of_le_length hq]
 have hlev : ∀ y : Int, (y ∈ s.trail \/ -y ∈ s.trail) -> up s.lev l.natAbs s.begins.length y.natAbs = s.lev y.natAbs := fun y hy => up_ne (by
  rcases hy with hy | hy
  ·exact hu y hy
  ·have := hu (-y) hy
   rwa [Int.natAbs_neg] at this)
 have htwo : ∀ k a b rr, (Zq s l r).list[k]? = some (a :: b :: rr) -> ∀ q, q ≤ (Zq s l r).head -> (E k -> q < (Zq s l r).head) -> (-a ∈ (Zq s l r).trail.take q -> b ∈ (Zq s l r).trail /\ (Zq s l r).lev b.natAbs ≤ (Zq s l r).lev a.natAbs) /\ (-b ∈ (Zq s l r).trail.take q -> a ∈ (Zq s l r).trail /\ (Zq s l r).lev a.natAbs ≤ (Zq s l r).lev b.natAbs) := by
  intro k a b rr e q hq hE
  have h1 := h.two k a b rr e q hq hE
  have hql : q ≤ s.trail.length := Nat.le_trans hq h.hl
  show (-a ∈ (s.trail ++ [l]).take q -> b ∈ s.trail ++ [l] /\ up s.lev l.natAbs s.begins.length b.natAbs ≤ up s.lev l.natAbs s.begins.length a.natAbs) /\ (-b ∈ (s.trail ++ [l]).take q -> a ∈ s.trail ++ [l] /\ up s.lev l.natAbs s.begins.length a.natAbs ≤ up s.lev l.natAbs s.begins.length b.natAbs)
  rw [htake q hql]
  refine ⟨fun q1 => ?_, fun q1 => ?_⟩
  ·obtain ⟨g1, g2⟩ := h1.1 q1
   exact ⟨List.mem_append_left _ g1, by rw [hlev b (.inl g1), hlev a (.inr (List.mem_of_mem_take q1))]; exact g2⟩
  ·obtain ⟨g1, g2⟩ := h1.2 q1
   exact ⟨List.mem_append_left _ g1, by rw [hlev a (.inl g1), hlev b (.inr (List.mem_of_mem_take q1))]; exact g2⟩
 exact { toInv0 := h.toInv0.assign hu hl hr hn, two := htwo }
end
end
end Go.Proofs.YtjmignmnlpamjaaGreat.S43
