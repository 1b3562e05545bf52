/- Part 10: walks by contracts, and plain laws. -/
import Derived.Test.YtpiidgcljlalmaaVa8
set_option linter.unusedVariables false
set_option linter.unusedSimpArgs false
set_option linter.unusedSectionVars false
namespace Go.Proofs.Ytpiidgcljlalmaa
open Go.RowKit
def hStr (b : Nat) (T : TypeId) (ds : List Dat) : HObj where
  blk := some b
  ok := fun P w => ∃ cs : List Value, w.heap[b]? = some (.cells cs.toArray T) ∧ cs.length = ds.length ∧ (∀ c ∈ cs, c.oneCell' = true) ∧ ∀ (k : Nat) (c : Value) (d : Dat), cs[k]? = some c → ds[k]? = some d → d.rd P w c
  weak := fun h q => by obtain ⟨cs, h1, h2, h3, h4⟩ := h; exact ⟨cs, h1, h2, h3, fun k c d hc hd => d.weak (h4 k c d hc hd) q⟩
  bound := fun h => by obtain ⟨cs, h1, h2, h3, h4⟩ := h; exact ⟨cs, h1, h2, h3, fun k c d hc hd => d.bound (h4 k c d hc hd)⟩
  move := fun h hg hP hne => by
    obtain ⟨cs, h1, h2, h3, h4⟩ := h
    have hlt : b < _ := (Array.getElem?_eq_some_iff.1 h1).1
    refine ⟨cs, (hg.block b hlt ?_).trans h1, h2, h3, fun k c d hc hd => d.grown (h4 k c d hc hd) hg hP⟩
    rcases hne with h | h
    · cases h
    · exact h
def dAgg (ds : List Dat) : Dat where
  rd := fun P w v => ∃ cs : List Value, v = .agg cs.toArray ∧ cs.length = ds.length ∧ (∀ c ∈ cs, c.oneCell' = true) ∧ ∀ (k : Nat) (c : Value) (d : Dat), cs[k]? = some c → ds[k]? = some d → d.rd P w c
  weak := fun ⟨cs, h1, h2, h3, h4⟩ q => ⟨cs, h1, h2, h3, fun k c d hc hd => d.weak (h4 k c d hc hd) q⟩
  move := fun ⟨cs, h1, h2, h3, h4⟩ q => ⟨cs, h1, h2, h3, fun k c d hc hd => d.move (h4 k c d hc hd) q⟩
  bound := fun ⟨cs, h1, h2, h3, h4⟩ => ⟨cs, h1, h2, h3, fun k c d hc hd => d.bound (h4 k c d hc hd)⟩
structure StrT (P : Program) (T : TypeId) (n : Nat) : Prop where
  fld : ∀ b off i w, i < n → (Instr.fieldAt T (.pointer (some ⟨b, off, none⟩)) i).run P w = .ok (.pointer (some ⟨b, off + i, none⟩)) w
section
variable {P : Program} {ops : Array Oper} {hp : List HObj} {fr : List Dat} {d : Dat} {Q : Post} {rest : List Oper}
variable {dst : Option Tmp} {ty : TypeId} {ps : String} {af : Array Edge} {g : Option (Nat × Bool)} {T T1 T2 : TypeId} {b off k n : Nat} {ds ds' : List Dat}
theorem WL.allocS {zs : List Value} (hz : TyZ P T (.agg zs.toArray)) (hn : 0 < zs.length) (h1 : ∀ c ∈ zs, c.oneCell' = true) (h : ∀ b, WL P ops Q rest (setD fr dst (dX (.pointer (some ⟨b, 0, none⟩)))) (hStr b T (zs.map dX) :: hp)) :
    WL P ops Q ({ dst := dst, op := .alloc T, type := ty, pos := ps, after := af, guard := none } :: rest) fr hp :=
  WL.alloc (n := zs.length) (agg := true) hz (fun _ _ _ q => by cases (q : _ = _); exact ⟨zs, rfl, hn, h1, rfl, rfl⟩) fun b => WL.of fun P0 B w0 w a hh hf => by
    obtain ⟨cs, u, c1, c2, c0, c3, c4, c5⟩ := hh.ok (hCell b T zs.length true (dX (.agg zs.toArray))) (by simp)
    have hu : u = .agg zs.toArray := c5
    simp only [if_true] at c4
    rw [hu] at c4
    have hcs : zs = cs := by injection c4 with c4; exact List.toArray_inj c4
    subst hcs
    have hgr : w.grownBy w (hCell b T zs.length true (dX (.agg zs.toArray))).blk := ⟨rfl, rfl, rfl, Nat.le_refl _, fun _ _ _ => rfl⟩
    have hok : (hStr b T (zs.map dX)).ok (fun k => Imm P0 B (hCell b T zs.length true (dX (.agg zs.toArray)) :: hp) k ∧ k < w.heap.size) w :=
      ⟨zs, c1, by simp, h1, fun k c d hc hd => by
        rw [List.getElem?_map, hc] at hd
        cases hd
        rfl⟩
    exact (h b).on (hh.write hgr (.inl rfl) hok) (hf.mono fun _ _ hd => Hp.written (o' := hStr b T (zs.map dX)) hgr (.inl rfl) hd)
theorem SY.fldS {x : Operand} {i : Nat} (S : StrT P T n) (hx : OpD fr x (dX (.pointer (some ⟨b, off, none⟩)))) (hi : i < n) :
    SY P ops hp { dst := dst, op := .fieldAddr T x i, type := ty, pos := ps, after := af, guard := g } fr (dX (.pointer (some ⟨b, off + i, none⟩))) := SY.val fun {I w a} ho => by
  have h1 : a.eval x = _ := hx.get (by simp [Op.operands]) ho
  refine ⟨_, ?_, rfl⟩
  unfold execOp
  simp only [h1, Sem.run_bind, S.fld b off i w hi, Result.andThen_ok, Sem.run_pure]
theorem str_cell {I : Nat → Prop} {w : World} (h : (hStr b T2 ds).ok I w) (hk : ds[k]? = some d) : ∃ c, w.cell? ⟨b, k, none⟩ = some c ∧ c.oneCell' = true ∧ d.rd I w c := by
  obtain ⟨cs, c1, c2, c3, c4⟩ := h
  have hlt := (List.getElem?_eq_some_iff.1 hk).1
  have hl : k < cs.length := by omega
  exact ⟨cs[k], by simp [World.cell?, c1, hl], c3 _ (List.getElem_mem hl), c4 k _ d (List.getElem?_eq_getElem hl) hk⟩
theorem SY.loadS {x : Operand} (T' : TyI P T1 1 false) (hx : OpD fr x (dX (.pointer (some ⟨b, k, none⟩)))) (hm : hStr b T2 ds ∈ hp) (hk : ds[k]? = some d) :
    SY P ops hp { dst := dst, op := .load T1 x, type := ty, pos := ps, after := af, guard := g } fr d := SY.valE fun {P0 B w0 w a} hh ho => by
  have h1 : a.eval x = .pointer (some ⟨b, k, none⟩) := hx.get (by simp [Op.operands]) ho
  obtain ⟨c, q1, q2, q3⟩ := str_cell (hh.ok _ hm) hk
  have hc : Cells (fun _ => True) w b k 1 false c := by
    refine ⟨trivial, [c], rfl, by decide, by simp [q2], fun i c' hc => ?_, rfl⟩
    have hi : i = 0 := by
      have := (List.getElem?_eq_some_iff.1 hc).1
      simp at this; exact this
    subst hi
    cases hc
    exact q1
  refine ⟨c, w, ?_, Ext.refl _, q3⟩
  unfold execOp
  simp only [h1, Sem.run_bind, run_loadC T' hc, Result.andThen_ok, Sem.run_pure]
theorem SY.loadW {x : Operand} (T' : TyI P T1 n true) (hx : OpD fr x (dX (.pointer (some ⟨b, 0, none⟩)))) (hm : hStr b T2 ds ∈ hp) (hn : 0 < n) (hl : ds.length = n) :
    SY P ops hp { dst := dst, op := .load T1 x, type := ty, pos := ps, after := af, guard := g } fr (dAgg ds) := SY.valE fun {P0 B w0 w a} hh ho => by
  have h1 : a.eval x = .pointer (some ⟨b, 0, none⟩) := hx.get (by simp [Op.operands]) ho
  obtain ⟨cs, c1, c2, c3, c4⟩ := hh.ok _ hm
  have hc : Cells (fun _ => True) w b 0 n true (.agg cs.toArray) := by
    refine ⟨trivial, cs, by omega, hn, c3, fun j c hc => ?_, rfl⟩
    simp [World.cell?, c1, hc]
  refine ⟨_, w, ?_, Ext.refl _, cs, rfl, c2, c3, c4⟩
  unfold execOp
  simp only [h1, Sem.run_bind, run_loadC T' hc, Result.andThen_ok, Sem.run_pure]
theorem WL.storeS {t : Nat} {x : Operand} (T' : TyI P T1 1 false) (hp0 : OpD fr (.tmp t) (dX (.pointer (some ⟨b, k, none⟩)))) (hx : OpD fr x d) (hs : d.Shape 1 false) (hk : k < ds.length)
    (h : WL P ops Q rest (setD fr dst (dX undef)) (hStr b T2 (ds.set k d) :: hp)) :
    WL P ops Q ({ dst := dst, op := .store T1 (.tmp t) x, type := ty, pos := ps, after := af, guard := none } :: rest) fr (hStr b T2 ds :: hp) := by
  refine WL.of fun P0 B w0 w a hh hf => ?_
  obtain ⟨cs, c1, c2, c3, c4⟩ := hh.ok (hStr b T2 ds) (by simp)
  have h1 : a.eval (.tmp t) = _ := hp0.ev hf
  have hd : d.rd (Imm P0 B (hStr b T2 ds :: hp)) w (a.eval x) := hx.ev hf
  obtain ⟨us, u1, u0, u2, u3, u4⟩ := hs _ _ _ hd
  obtain ⟨u, rfl⟩ : ∃ u, us = [u] := List.length_eq_one_iff.1 u1
  have hu : a.eval x = u := by
    simp only [Bool.false_eq_true, if_false] at u4
    exact (List.cons.inj u4).1.symm
  have hone : u.oneCell' = true := u2 u (by simp)
  have hdu : d.rd (Imm P0 B (hStr b T2 ds :: hp)) w u := by rw [hu] at hd; exact hd
  have hkc : k < cs.length := by omega
  have hset := setCell_eq_setRow w b k cs.toArray T2 (0, 0) u c1
  have hc : w.cell? ⟨b, k, none⟩ = some cs[k] := by simp [World.cell?, c1, hkc]
  have hfz : w.frozen? ⟨b, k, none⟩ = false := by simp [World.frozen?, c1]
  have hst : (store ((⟨b, k, none⟩ : Addr).add 0) u).run P w = .ok () (w.setCell ⟨b, k, none⟩ u) := by
    rw [show ((⟨b, k, none⟩ : Addr).add 0) = ⟨b, k, none⟩ from rfl, run_store P w _ u _ hone, hc]
    simp [hfz]
  have hsz : (sizeOf T1).run P w = .ok 1 w := by
    have h5 := T'.size
    cases hq : P.info? T1 with
    | none => rw [hq] at h5; cases h5
    | some i =>
      rw [hq] at h5
      have : i.size = 1 := by simpa using h5
      rw [← this]
      rw [run_sizeOf w hq]
      simp [Program.cellsOf, hq]
  have hw : w.setCell ⟨b, k, none⟩ u = w.setRow b (cs.set k u).toArray := by rw [hset]; simp
  have hrun : (execOp a.eval { dst := dst, op := .store T1 (.tmp t) x, type := ty, pos := ps, after := af, guard := none }).run P w = .ok .skip (w.setRow b (cs.set k u).toArray) := by
    rw [← hw]
    unfold execOp
    simp only [h1, hu, Instr.storeAt, Instr.sureAddr, storeVar, Sem.run_bind, hsz, Result.andThen_ok, Sem.run_pure]
    simp [cells_one hone, storeCells, hst]
  refine wpList_plain rfl fun K hK => ?_
  unfold Oper.wp
  rw [hrun]
  have hgr : w.grownBy (w.setRow b (cs.set k u).toArray) (hStr b T2 ds).blk := grown_setRow
  have hok : (hStr b T2 (ds.set k d)).ok (fun j => Imm P0 B (hStr b T2 ds :: hp) j ∧ j < w.heap.size) (w.setRow b (cs.set k u).toArray) := by
    refine ⟨cs.set k u, setRow_heap w b _ _ _ _ c1, by simp [c2], fun c hc => ?_, fun j c e hc he => ?_⟩
    · rcases List.mem_or_eq_of_mem_set hc with hc | rfl
      · exact c3 c hc
      · exact hone
    · rw [List.getElem?_set] at hc he
      by_cases hjk : k = j
      · rw [if_pos hjk, if_pos (by omega)] at hc he
        cases hc; cases he
        exact d.grown (d.bound hdu) hgr fun j q hj => hj.1.2 (hStr b T2 ds) (by simp) q
      · rw [if_neg hjk] at hc he
        exact e.grown (e.bound (c4 j c e hc he)) hgr fun j q hj => hj.1.2 (hStr b T2 ds) (by simp) q
  exact hK _ _ (h.on (hh.write hgr (.inl rfl) hok) (Fr.put (hf.mono fun _ _ hd => Hp.written (o' := hStr b T2 (ds.set k d)) hgr (.inl rfl) hd) (d := dX undef) rfl))
theorem WL.storeW {t : Nat} {x : Operand} (T' : TyI P T1 n true) (hp0 : OpD fr (.tmp t) (dX (.pointer (some ⟨b, 0, none⟩)))) (hx : OpD fr x (dAgg ds')) (hl : ds.length = n) (hl' : ds'.length = n)
    (h : WL P ops Q rest (setD fr dst (dX undef)) (hStr b T2 ds' :: hp)) :
    WL P ops Q ({ dst := dst, op := .store T1 (.tmp t) x, type := ty, pos := ps, after := af, guard := none } :: rest) fr (hStr b T2 ds :: hp) := by
  refine WL.of fun P0 B w0 w a hh hf => ?_
  obtain ⟨cs, c1, c2, c3, c4⟩ := hh.ok (hStr b T2 ds) (by simp)
  have h1 : a.eval (.tmp t) = _ := hp0.ev hf
  obtain ⟨us, u1, u2, u3, u4⟩ := (hx.ev hf : (dAgg ds').rd (Imm P0 B (hStr b T2 ds :: hp)) w (a.eval x))
  have hr := run_storeC (u := a.eval x) (cs := cs) (cs' := us) T'.size c1 (by omega) (by omega) u3 (by rw [u1]; rfl)
  have hrun : (execOp a.eval { dst := dst, op := .store T1 (.tmp t) x, type := ty, pos := ps, after := af, guard := none }).run P w = .ok .skip (w.setRow b us.toArray) := by
    unfold execOp
    simp only [h1, Sem.run_bind, hr, Result.andThen_ok, Sem.run_pure]
  refine wpList_plain rfl fun K hK => ?_
  unfold Oper.wp
  rw [hrun]
  have hgr : w.grownBy (w.setRow b us.toArray) (hStr b T2 ds).blk := grown_setRow
  have hok : (hStr b T2 ds').ok (fun j => Imm P0 B (hStr b T2 ds :: hp) j ∧ j < w.heap.size) (w.setRow b us.toArray) :=
    ⟨us, setRow_heap w b _ _ _ _ c1, u2, u3, fun j c e hc he => e.grown (e.bound (u4 j c e hc he)) hgr fun j q hj => hj.1.2 (hStr b T2 ds) (by simp) q⟩
  exact hK _ _ (h.on (hh.write hgr (.inl rfl) hok) (Fr.put (hf.mono fun _ _ hd => Hp.written (o' := hStr b T2 ds') hgr (.inl rfl) hd) (d := dX undef) rfl))
end
def R3 {α β γ : Type} (R : Rel α) (S : Rel β) (T : Rel γ) : Rel (α × β × γ) := fun P w v x => ∃ u u' u'', v = .agg #[u, u', u''] ∧ (u.oneCell' = true ∧ u'.oneCell' = true ∧ u''.oneCell' = true) ∧ R P w u x.1 ∧ S P w u' x.2.1 ∧ T P w u'' x.2.2
instance {α β γ : Type} (R : Rel α) (S : Rel β) (T : Rel γ) [Good R] [Good S] [Good T] : Good (R3 R S T) where
  weak := fun ⟨u, u', u'', h1, h0, h2, h3, h4⟩ q => ⟨u, u', u'', h1, h0, Good.weak h2 q, Good.weak h3 q, Good.weak h4 q⟩
  move := fun ⟨u, u', u'', h1, h0, h2, h3, h4⟩ q => ⟨u, u', u'', h1, h0, Good.move h2 q, Good.move h3 q, Good.move h4 q⟩
  bound := fun ⟨u, u', u'', h1, h0, h2, h3, h4⟩ => ⟨u, u', u'', h1, h0, Good.bound h2, Good.bound h3, Good.bound h4⟩
end Go.Proofs.Ytpiidgcljlalmaa
namespace Go.Proofs.Ytpiidgcljlalmaa
open Go.RowKit
def MapR {K α : Type} (kv : K → Value) (R : Rel α) : Rel (List (K × α)) := fun P w v m =>
  ∃ (b : Nat) (us : List Value), v = .map (some b) ∧ P b ∧ us.length = m.length ∧ w.heap[b]? = some (mapObj (encM kv id ((m.map (·.1)).zip us))) ∧ ∀ k (h : k < us.length) (h' : k < m.length), R P w us[k] m[k].2
theorem lt_of_heap {w : World} {b : Nat} {o : Obj} (h : w.heap[b]? = some o) : b < w.heap.size := (Array.getElem?_eq_some_iff.1 h).1
instance {K α : Type} (kv : K → Value) (R : Rel α) [Good R] : Good (MapR kv R) where
  weak := fun ⟨b, us, h1, h2, h3, h4, h5⟩ q => ⟨b, us, h1, q b h2, h3, h4, fun k a c => Good.weak (h5 k a c) q⟩
  move := fun ⟨b, us, h1, h2, h3, h4, h5⟩ q => ⟨b, us, h1, h2, h3, (q b h2 (lt_of_heap h4)).trans h4, fun k a c => Good.move (h5 k a c) q⟩
  bound := fun ⟨b, us, h1, h2, h3, h4, h5⟩ => ⟨b, us, h1, ⟨h2, lt_of_heap h4⟩, h3, h4, fun k a c => Good.bound (h5 k a c)⟩
theorem FinD.map {hp : List HObj} {b : Nat} {e : TypeId} {K α : Type} {kv : K → Value} {R : Rel α} {_gR : Good R} {M : List (K × Value × List α)} (hm : hM b kv (fun p : Value × List α => p.1) M ∈ hp) (hr : ∀ p ∈ M, hRow p.2.1 e R p.2.2 ∈ hp) :
    FinD hp (dX (.map (some b))) (dS (MapR kv (Arr R)) (M.map fun p => (p.1, p.2.2))) := FinD.mk fun {P0 B w0 w u} hh hd => by
  have hb : w.heap[b]? = some (mapObj _) := hh.ok _ hm
  refine ⟨b, M.map fun p => p.2.1, hd, own_blocks hh hm rfl, by simp, ?_, fun k h1 h2 => ?_⟩
  · rw [hb]
    congr 2
    unfold encM
    simp only [List.map_map]
    rw [List.zip_map', List.map_map]
    rfl
  · have hk : k < M.length := by simpa using h1
    have : Arr R (fun b => P0 b ∨ B ≤ b) w M[k].2.1 M[k].2.2 := (FinD.row (hr _ (List.getElem_mem hk))).out (v := M[k].2.1) hh rfl
    simpa using this
end Go.Proofs.Ytpiidgcljlalmaa
namespace Go.Proofs.Ytpiidgcljlalmaa
open Go.RowKit
section
variable {P : Program} {ops : Array Oper} {hp : List HObj} {fr : List Dat} {Q : Post} {rest : List Oper} {c : Code} {d : Dat} {α : Type} {R : Rel α} {e : TypeId}
structure CapH (hp : List HObj) (v : Value) (d : Dat) : Prop where
  out : ∀ {P0 : Nat → Prop} {B : Nat} {w0 w : World}, Hp P0 B w0 hp w → d.rd anyB w v
theorem CapH.map {K V : Type} {kv : K → Value} {vv : V → Value} {R : Rel V} [Good R] {M : List (K × V)} {b m : Nat} {T : TypeId} (h1 : hCell b T 1 false (dX (.map (some m))) ∈ hp) (h2 : hM m kv vv M ∈ hp) (hvv : ∀ I w (y : V), R I w (vv y) y) :
    CapH hp (.pointer (some ⟨b, 0, none⟩)) (dP 1 false (dS (MapR kv R) M)) := CapH.mk fun {P0 B w0 w} hh => by
  obtain ⟨cs, u, c1, c2, c0, c3, c4, c5⟩ := hh.ok _ h1
  have hu : u = .map (some m) := c5
  have hb : w.heap[m]? = some (mapObj _) := hh.ok _ h2
  refine ⟨b, 0, u, rfl, cells_of_obj c1 c2 c0 c3 c4 trivial, m, M.map fun p => vv p.2, hu, trivial, by simp, ?_, fun k q1 q2 => ?_⟩
  · rw [hb]
    congr 2
    unfold encM
    rw [List.zip_map', List.map_map]
    rfl
  · simp only [List.getElem_map]
    exact hvv _ _ _
end
end Go.Proofs.Ytpiidgcljlalmaa
namespace Go.Proofs.Ytpiidgcljlalmaa
open Go.RowKit
section
variable {P : Program} {ops : Array Oper} {hp : List HObj} {fr : List Dat} {dst : Option Tmp} {ty : TypeId} {ps : String} {af : Array Edge} {t e : TypeId} {z : Value} {bytes : Nat} {ag : Bool}
theorem SW.app1 {s y : Operand} (E : ElT P t e 1 z bytes ag) {α : Type} {R : Rel α} {_gR : Good R} {v : Value} {xs ys : List α} (hs : OpD fr s (dX v)) (hy : OpD fr y (dS (Arr R) ys)) (hby : 0 < bytes)
    (hlen : (xs.length + ys.length) * bytes ≤ 140737488355328) :
    SW P ops (hRow v e R xs :: hp) (fun v' : Value => hRow v' e R (xs ++ ys) :: hp) (fun v' => dX v') { dst := dst, op := .call { callee := .builtin .append, args := #[s, y], argTypes := #[t, t] }, type := ty, pos := ps, after := af, guard := none } fr := ⟨rfl, fun {P0 B w0 w a} hh ho K Q hk => by
  obtain ⟨ad, cap, hv, c1, c2, c3⟩ := (hy.get (by simp [Op.operands, Call.operands]) ho : Arr R _ _ _ _)
  have hm : xs.length + ys.length ≤ maxLen := by
    have : (xs.length + ys.length) * 1 ≤ (xs.length + ys.length) * bytes := Nat.mul_le_mul_left _ hby
    simp only [maxLen]; omega
  have hse : a.eval s = v := hs.get (by simp [Op.operands, Call.operands]) ho
  cases ad with
  | none =>
    have hy0 : ys = [] := by
      cases ys with
      | nil => rfl
      | cons y ys => obtain ⟨_, _, _, _, _, hc, _⟩ := c3 0 (by simp); cases hc
    subst hy0
    obtain ⟨us, _, hown, _⟩ := hh.ok (hRow v e R xs) (by simp)
    have hrun : (execOp a.eval { dst := dst, op := .call { callee := .builtin .append, args := #[s, y], argTypes := #[t, t] }, type := ty, pos := ps, after := af, guard := none }).run P w = .ok (.value v) w := by
      have hr := run_append_none (P := P) (ty := ty) (w := w) E hown cap
      have hv' : a.eval y = .slice none 0 cap := hv
      unfold execOp
      simp only [resolve, invoke, builtin, List.map_toArray, List.map_cons, List.map_nil, hse, hv', Sem.run_bind, Sem.run_pure, Result.andThen_ok]
      rw [hr]
      simp
    unfold Oper.wp
    rw [hrun]
    have := hk v v w
    simp only [List.append_nil] at this
    exact this hh (fun _ _ h => h) rfl
  | some ad =>
    have hch : ∀ k : Nat, ∃ u : Value, ∀ h : k < ys.length, w.cell? (ad.add k) = some u ∧ u.oneCell' = true ∧ R (Imm P0 B (hRow v e R xs :: hp)) w u ys[k] := fun k => by
      by_cases hk : k < ys.length
      · obtain ⟨u, b, off, r1, r2, r3, r4, r5⟩ := c3 k hk
        cases r3
        exact ⟨u, fun _ => ⟨by rw [Addr.add_lit]; exact r5, r2, r1⟩⟩
      · exact ⟨undef, fun h => absurd h hk⟩
    obtain ⟨f, hfch⟩ := Classical.axiomOfChoice hch
    obtain ⟨v', w', hr, r1, r2, r3⟩ := app1_step (ty := ty) E hh (ad := ad) (c := cap) (ys := ys) (news := (List.range ys.length).map f) (by simp) (fun j u hu => by
        obtain ⟨hjl, hju⟩ := List.getElem?_eq_some_iff.1 hu
        simp at hjl hju
        subst hju
        exact (hfch j hjl).1) (fun u hu => by
        simp only [List.mem_map, List.mem_range] at hu
        obtain ⟨j, hj, rfl⟩ := hu
        exact (hfch j hj).2.1) (fun k h1 h2 => by
        simp only [List.getElem_map, List.getElem_range]
        exact (hfch k h2).2.2) hlen hm
    have hrun : (execOp a.eval { dst := dst, op := .call { callee := .builtin .append, args := #[s, y], argTypes := #[t, t] }, type := ty, pos := ps, after := af, guard := none }).run P w = .ok (.value v') w' := by
      unfold execOp
      simp only [resolve, invoke, builtin, List.map_toArray, List.map_cons, List.map_nil, hse, hv, Sem.run_bind, Sem.run_pure, Result.andThen_ok, hr]
    unfold Oper.wp
    rw [hrun]
    exact hk v' v' w' r1 (fun d u hd => Hp.written (o := hRow v e R xs) (o' := hRow v' e R (xs ++ ys)) r2 r3 hd) rfl⟩
end
end Go.Proofs.Ytpiidgcljlalmaa
namespace Go.Proofs.Ytpiidgcljlalmaa
open Go.RowKit
section
variable {P : Program} {ops : Array Oper} {md : Region.Mode} {fr fr' : List Dat} {hp : List HObj} {C : List HObj → Prop}
inductive WRd (P : Program) (ops : Array Oper) (C : List HObj → Prop) (Q : List Dat → Prop) : List Nat → List Dat → Prop
  | nil {fr : List Dat} : Q fr → WRd P ops C Q [] fr
  | read {i : Nat} {o : Oper} {r : List Nat} {fr : List Dat} {d : Dat} : ops[i]? = some o → (∀ hp', C hp' → SYG P ops hp' o fr d) → WRd P ops C Q r (setD fr o.dst d) → WRd P ops C Q (i :: r) fr
structure W2 (P : Program) (ops : Array Oper) (C : List HObj → Prop) (R : List Dat → List HObj → Prop) (i j : Nat) (fr : List Dat) (hp : List HObj) : Prop where
  out : ∃ oi oj, ops[i]? = some oi ∧ ops[j]? = some oj ∧ ∃ (β : Type) (H : β → List HObj) (D : β → Dat), SW P ops hp H D oi fr ∧ (∀ x, C (H x)) ∧ ∀ x, ∃ (γ : Type) (H2 : γ → List HObj) (D2 : γ → Dat), SW P ops (H x) H2 D2 oj (setD fr oi.dst (D x)) ∧ (∀ y, C (H2 y)) ∧ ∀ y, R (setD (setD fr oi.dst (D x)) oj.dst (D2 y)) (H2 y)
theorem WRd.readL {l : List Oper} {Q : List Dat → Prop} {i : Nat} {o : Oper} {r : List Nat} {d : Dat} (ho : l[i]? = some o) (h : ∀ hp', C hp' → SYG P l.toArray hp' o fr d) (k : WRd P l.toArray C Q r (setD fr o.dst d)) : WRd P l.toArray C Q (i :: r) fr := WRd.read (by simpa using ho) h k
theorem W2.id {R : List Dat → List HObj → Prop} {i j : Nat} (h : W2 P ops C R i j fr hp) : W2 P ops C R i j fr hp := h
theorem WRd.id {Q : List Dat → Prop} {r : List Nat} (h : WRd P ops C Q r fr) : WRd P ops C Q r fr := h
theorem SW.alloc {dst : Option Tmp} {ty : TypeId} {ps : String} {af : Array Edge} {T : TypeId} {n : Nat} {agg : Bool} {z : Value} (hz : TyZ P T z) (hs : (dX z).Shape n agg) :
    SW P ops hp (fun b : Nat => hCell b T n agg (dX z) :: hp) (fun b => dX (.pointer (some ⟨b, 0, none⟩))) { dst := dst, op := .alloc T, type := ty, pos := ps, after := af, guard := none } fr := ⟨rfl, fun {P0 B w0 w a} hh ho K Q hk => by
  obtain ⟨cs, k1, k0, k2, k3, k4⟩ := hs (fun _ => True) w z rfl
  have hrun : (execOp a.eval { dst := dst, op := .alloc T, type := ty, pos := ps, after := af, guard := none }).run P w = .ok (.value (.pointer (some ⟨w.heap.size, 0, none⟩))) (w.alloc (.cells cs.toArray T)) := by
    cases hq : P.info? T with
    | none => have := hz.out; simp [hq] at this
    | some i =>
      have hz' : i.zero = some z := by have := hz.out; simpa [hq] using this
      unfold execOp
      simp [Instr.alloc, zeroValue, typeInfo, hq, hz', newVar, newRow, k3]
  unfold Oper.wp
  rw [hrun]
  have hx := Ext.of_alloc w (.cells cs.toArray T)
  have hb : ∀ k, (hCell w.heap.size T n agg (dX z)).blk = some k → w.heap.size ≤ k ∧ k < (w.alloc (.cells cs.toArray T)).heap.size := fun k hk => by
    cases hk
    exact ⟨Nat.le_refl _, by simp⟩
  exact hk w.heap.size _ _ (hh.push hx hb ⟨cs, z, alloc_get w _, k1, k0, k2, k4, rfl⟩) (fun d u hd => Hp.pushed hx (fun k hk => (hb k hk).1) hd) rfl⟩
end
end Go.Proofs.Ytpiidgcljlalmaa
namespace Go.Proofs.Ytpiidgcljlalmaa
open Go.RowKit
section
variable {P : Program} {ops : Array Oper} {hp : List HObj} {fr : List Dat} {d : Dat} {dst : Option Tmp} {ty : TypeId} {ps : String} {af : Array Edge} {t e : TypeId} {n : Nat} {z : Value} {bytes : Nat} {ag : Bool}
theorem SW.storeK {x : Operand} {t b n : Nat} {T T2 : TypeId} {agg : Bool} {d0 : Dat} (hT : TyI P T n agg) (hp0 : OpD fr (.tmp t) (dX (.pointer (some ⟨b, 0, none⟩)))) (hx : OpD fr x d) (hs : d.Shape n agg) :
    SW P ops (hCell b T2 n agg d0 :: hp) (fun _ : Unit => hCell b T2 n agg d :: hp) (fun _ => dX undef) { dst := none, op := .store T (.tmp t) x, type := ty, pos := ps, after := af, guard := none } fr := ⟨rfl, fun {P0 B w0 w a} hh ho K Q hk => by
  obtain ⟨cs, u, c1, c2, c0, c3, c4, c5⟩ := hh.ok (hCell b T2 n agg d0) (by simp)
  have h1 : d.rd (Imm P0 B (hCell b T2 n agg d0 :: hp)) w (a.eval x) := hx.get (by simp [Op.operands]) ho
  obtain ⟨cs', k1, k0, k2, k3, k4⟩ := hs _ _ _ h1
  have h2 : a.eval (.tmp t) = .pointer (some ⟨b, 0, none⟩) := hp0.get (by simp [Op.operands]) ho
  have hr := run_storeC (u := a.eval x) hT.size c1 c2 k1 k2 k3
  have hrun : (execOp a.eval { dst := none, op := .store T (.tmp t) x, type := ty, pos := ps, after := af, guard := none }).run P w = .ok .skip (w.setRow b cs'.toArray) := by
    unfold execOp
    simp only [h2, Sem.run_bind, hr, Result.andThen_ok, Sem.run_pure]
  unfold Oper.wp
  rw [hrun]
  have hgr : w.grownBy (w.setRow b cs'.toArray) (hCell b T2 n agg d0).blk := grown_setRow
  have hok : (hCell b T2 n agg d).ok (fun k => Imm P0 B (hCell b T2 n agg d0 :: hp) k ∧ k < w.heap.size) (w.setRow b cs'.toArray) :=
    ⟨cs', a.eval x, setRow_heap w b _ _ _ _ c1, k1, k0, k2, k4, d.grown (d.bound h1) hgr (fun k hk hc => hc.1.2 _ (by simp) hk)⟩
  exact hk () undef _ (hh.write hgr (.inl rfl) hok) (fun d' u hd => Hp.written (o' := hCell b T2 n agg d) hgr (.inl rfl) hd) rfl⟩
theorem SW.appK {s y : Operand} (E : ElT P t e n z bytes ag) {α : Type} {R : Rel α} {_gR : Good R} {v : Value} {xs ys : List α} (hs : OpD fr s (dX v)) (hy : OpD fr y (dS (ArrK n R) ys)) (hby : 0 < bytes)
    (hlen : (xs.length + ys.length) * bytes ≤ 140737488355328) :
    SW P ops (hRowK v e n R xs :: hp) (fun v' : Value => hRowK v' e n R (xs ++ ys) :: hp) (fun v' => dX v') { dst := dst, op := .call { callee := .builtin .append, args := #[s, y], argTypes := #[t, t] }, type := ty, pos := ps, after := af, guard := none } fr := ⟨rfl, fun {P0 B w0 w a} hh ho K Q hk => by
  obtain ⟨ad, cap, hv, c1, c2, c0, c3⟩ := (hy.get (by simp [Op.operands, Call.operands]) ho : ArrK n R _ _ _ _)
  have hm : xs.length + ys.length ≤ maxLen := by
    have : (xs.length + ys.length) * 1 ≤ (xs.length + ys.length) * bytes := Nat.mul_le_mul_left _ hby
    simp only [maxLen]; omega
  have hse : a.eval s = v := hs.get (by simp [Op.operands, Call.operands]) ho
  cases ad with
  | none =>
    have hy0 : ys = [] := by
      cases ys with
      | nil => rfl
      | cons y ys => obtain ⟨_, _, _, _, _, _, hc, _⟩ := c3 0 (by simp); cases hc
    subst hy0
    obtain ⟨us, _, _, _, hown, _⟩ := hh.ok (hRowK v e n R xs) (by simp)
    have hrun : (execOp a.eval { dst := dst, op := .call { callee := .builtin .append, args := #[s, y], argTypes := #[t, t] }, type := ty, pos := ps, after := af, guard := none }).run P w = .ok (.value v) w := by
      have hr := run_append_none (P := P) (ty := ty) (w := w) E hown cap
      have hv' : a.eval y = .slice none 0 cap := hv
      unfold execOp
      simp only [resolve, invoke, builtin, List.map_toArray, List.map_cons, List.map_nil, hse, hv', Sem.run_bind, Sem.run_pure, Result.andThen_ok]
      rw [hr]
      simp
    unfold Oper.wp
    rw [hrun]
    have := hk v v w
    simp only [List.append_nil] at this
    exact this hh (fun _ _ h => h) rfl
  | some ad =>
    have hch : ∀ k : Nat, ∃ cs : List Value, ∀ h : k < ys.length, cs.length = n ∧ (∀ c ∈ cs, c.oneCell' = true) ∧ (∀ j c, cs[j]? = some c → w.cell? (ad.add (k * n + j)) = some c) ∧ R (Imm P0 B (hRowK v e n R xs :: hp)) w (.agg cs.toArray) ys[k] := fun k => by
      by_cases hk : k < ys.length
      · obtain ⟨cs, b, off, r1, r2, r3, r4, r5, r6⟩ := c3 k hk
        cases r4
        exact ⟨cs, fun _ => ⟨r2, r3, fun j c hc => by rw [Addr.add_lit, ← Nat.add_assoc]; exact r6 j c hc, r1⟩⟩
      · exact ⟨[], fun h => absurd h hk⟩
    obtain ⟨f, hfch⟩ := Classical.axiomOfChoice hch
    have hmem : ∀ u ∈ (List.range ys.length).map f, ∃ j, j < ys.length ∧ u = f j := fun u hu => by
      simp only [List.mem_map, List.mem_range] at hu
      obtain ⟨j, hj, rfl⟩ := hu
      exact ⟨j, hj, rfl⟩
    obtain ⟨v', w', hr, r1, r2, r3⟩ := appK_step (ty := ty) E hh (ad := ad) (c := cap) (ys := ys) (news := (List.range ys.length).map f) (by simp) (fun j u hu => by
        have hlt := (List.getElem?_eq_some_iff.1 hu).1
        have hfl : ((List.range ys.length).map f).flatten.length = ys.length * n := by
          rw [flatten_len (n := n) fun u hu => by obtain ⟨j, hj, rfl⟩ := hmem u hu; exact (hfch j hj).1]; simp
        rw [hfl] at hlt
        have hq : j / n < ys.length := (Nat.div_lt_iff_lt_mul c0).2 hlt
        have hr : j % n < n := Nat.mod_lt _ c0
        have hj : j = (j / n) * n + j % n := by rw [Nat.mul_comm]; exact (Nat.div_add_mod j n).symm
        have hlen' := (hfch (j / n) hq).1
        have hg := flatten_get (us := (List.range ys.length).map f) (n := n) (k := j / n) (j := j % n) (fun u hu => by obtain ⟨j, hj, rfl⟩ := hmem u hu; exact (hfch j hj).1) (by simpa using hq) (c := (f (j / n))[j % n]'(by omega)) (by simp)
        rw [← hj, hu] at hg
        cases hg
        have := (hfch (j / n) hq).2.2.1 (j % n) _ (List.getElem?_eq_getElem (by omega))
        rw [← hj] at this
        exact this)
      (fun u hu => by obtain ⟨j, hj, rfl⟩ := hmem u hu; exact ⟨(hfch j hj).1, (hfch j hj).2.1⟩) (fun k h1 h2 => by
        simp only [List.getElem_map, List.getElem_range]
        exact (hfch k h2).2.2.2) hlen hm
    have hrun : (execOp a.eval { dst := dst, op := .call { callee := .builtin .append, args := #[s, y], argTypes := #[t, t] }, type := ty, pos := ps, after := af, guard := none }).run P w = .ok (.value v') w' := by
      unfold execOp
      simp only [resolve, invoke, builtin, List.map_toArray, List.map_cons, List.map_nil, hse, hv, Sem.run_bind, Sem.run_pure, Result.andThen_ok, hr]
    unfold Oper.wp
    rw [hrun]
    exact hk v' v' w' r1 (fun d u hd => Hp.written (o := hRowK v e n R xs) (o' := hRowK v' e n R (xs ++ ys)) r2 r3 hd) rfl⟩
end
end Go.Proofs.Ytpiidgcljlalmaa
