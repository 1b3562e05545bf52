/- Part 12: walks by contracts, and plain laws. -/
import Derived.Test.YtgppfikidagfpaaGreatDoorVf11
set_option linter.unusedVariables false
set_option linter.unusedSimpArgs false
set_option linter.unusedSectionVars false
namespace Go.Proofs.YtgppfikidagfpaaGreatDoor
open Go.RowKit

abbrev hM {K V : Type} (b : Nat) (kv : K → Value) (vv : V → Value) (m : List (K × V)) : HObj := hObj b (mapObj (encM kv vv m))
structure IsV (d : Dat) (v : Value) : Prop where
  is : ∀ (I : Nat → Prop) (w : World) (u : Value), d.rd I w u → u = v
theorem isX {v : Value} : IsV (dX v) v := ⟨fun _ _ _ h => h⟩
section
variable {P : Program} {ops : Array Oper} {hp : List HObj} {o : Oper} {fr : List Dat} {d d2 : Dat} {Q : Post} {rest : List Oper}
variable {dst : Option Tmp} {ty : TypeId} {ps : String} {af : Array Edge} {g : Option (Nat × Bool)} {t k e : TypeId} {z : Value} {K V : Type} {kv : K → Value} {ok : K → Prop} {vv : V → Value} {b : Nat} {m : List (K × V)}
theorem WL.makeMap (kv : K → Value) (vv : V → Value) (h : ∀ b, WL P ops Q rest (setD fr dst (dX (.map (some b)))) (hM b kv vv [] :: hp)) :
    WL P ops Q ({ dst := dst, op := .makeMap t none, type := ty, pos := ps, after := af, guard := none } :: rest) fr hp := by
  refine WL.of fun P0 B w0 w a hh hf => ?_
  have hrun : (execOp a.eval { dst := dst, op := .makeMap t none, type := ty, pos := ps, after := af, guard := none }).run P w = .ok (.value (.map (some w.heap.size))) (w.alloc (mapObj [])) := by
    unfold execOp
    simp [Instr.makeMap, mapObj, entriesM]
  refine wpList_value rfl hrun ?_
  have hx := Ext.of_alloc w (mapObj [])
  have hb : ∀ k, (hM w.heap.size kv vv []).blk = some k → w.heap.size ≤ k ∧ k < (w.alloc (mapObj [])).heap.size := fun k hk => by
    cases hk
    exact ⟨Nat.le_refl _, by simp⟩
  refine (h w.heap.size).on (hh.push hx hb (alloc_get w _)) ?_
  exact Fr.put (hf.mono fun d _ hd => Hp.pushed hx (fun k hk => (hb k hk).1) hd) rfl
section
variable [DecidableEq K]
theorem SY.lookM {x y : Operand} {v : K} (T : MapT P t k e z) (H : KeyT P k kv ok) (hx : OpD fr x (dX (.map (some b)))) (hm : hM b kv vv m ∈ hp) (hy : OpD fr y d) (hd : IsV d (kv v)) (ho : ok v) (hok : ∀ p ∈ m, ok p.1) (hn : (m.map (·.1)).Nodup) :
    SY P ops hp { dst := dst, op := .lookup t x y false, type := ty, pos := ps, after := af, guard := g } fr (dX (((Go.Proofs.YtgppfikidagfpaaGreatDoor.lookM m v).map vv).getD z)) := SY.valE fun {P0 B w0 w a} hh hon => by
  have h1 : a.eval x = _ := hx.get (by simp [Op.operands]) hon
  have h2 := hd.is _ _ _ (hy.get (by simp [Op.operands]) hon)
  refine ⟨_, w, ?_, Ext.refl _, rfl⟩
  unfold execOp
  simp only [h1, h2, Sem.run_bind, run_lookup T H hok hn ho (hh.ok _ hm) false, Result.andThen_ok, Sem.run_pure]
  rfl
theorem SY.lookM2 {x y : Operand} {v : K} (T : MapT P t k e z) (H : KeyT P k kv ok) (hx : OpD fr x (dX (.map (some b)))) (hm : hM b kv vv m ∈ hp) (hy : OpD fr y d) (hd : IsV d (kv v)) (ho : ok v) (hok : ∀ p ∈ m, ok p.1) (hn : (m.map (·.1)).Nodup) :
    SY P ops hp { dst := dst, op := .lookup t x y true, type := ty, pos := ps, after := af, guard := g } fr (dT [dX (((Go.Proofs.YtgppfikidagfpaaGreatDoor.lookM m v).map vv).getD z), dB (Go.Proofs.YtgppfikidagfpaaGreatDoor.lookM m v).isSome]) := SY.valE fun {P0 B w0 w a} hh hon => by
  have h1 : a.eval x = _ := hx.get (by simp [Op.operands]) hon
  have h2 := hd.is _ _ _ (hy.get (by simp [Op.operands]) hon)
  refine ⟨_, w, ?_, Ext.refl _, [((Go.Proofs.YtgppfikidagfpaaGreatDoor.lookM m v).map vv).getD z, .bool (Go.Proofs.YtgppfikidagfpaaGreatDoor.lookM m v).isSome], rfl, rfl, fun i e x he hx => ?_⟩
  · unfold execOp
    simp only [h1, h2, Sem.run_bind, run_lookup T H hok hn ho (hh.ok _ hm) true, Result.andThen_ok, Sem.run_pure]
    rfl
  · match i, he, hx with
    | 0, he, hx => cases he; cases hx; rfl
    | 1, he, hx => cases he; cases hx; rfl
theorem WL.putMap {x y c : Operand} {v : K} {u : V} (T : MapT P t k e z) (H : KeyT P k kv ok) (hx : OpD fr x (dX (.map (some b)))) (hy : OpD fr y d) (hd : IsV d (kv v)) (hc : OpD fr c d2) (hd2 : IsV d2 (vv u)) (ho : ok v) (hok : ∀ p ∈ m, ok p.1) (hn : (m.map (·.1)).Nodup)
    (h : WL P ops Q rest (setD fr dst (dX undef)) (hM b kv vv (putM m v u) :: hp)) :
    WL P ops Q ({ dst := dst, op := .mapUpdate t x y c, type := ty, pos := ps, after := af, guard := none } :: rest) fr (hM b kv vv m :: hp) := by
  refine WL.of fun P0 B w0 w a hh hf => ?_
  have h1 : a.eval x = _ := hx.ev hf
  have h2 := hd.is _ _ _ (hy.ev hf)
  have h3 := hd2.is _ _ _ (hc.ev hf)
  have hrun : (execOp a.eval { dst := dst, op := .mapUpdate t x y c, type := ty, pos := ps, after := af, guard := none }).run P w = .ok .skip (w.putObj b (mapObj (encM kv vv (putM m v u)))) := by
    unfold execOp
    simp only [h1, h2, h3, Sem.run_bind, run_update T H hok hn ho u (hh.ok (hM b kv vv m) (by simp)), Result.andThen_ok, Sem.run_pure]
    rfl
  refine wpList_plain rfl fun K hK => ?_
  unfold Oper.wp
  rw [hrun]
  exact hK _ _ (h.on (Hp.putObj hh) (Fr.put (hf.mono fun _ _ hd => Hp.putObj_rd hd) (d := dX undef) rfl))
end
theorem WL.entM {x y : Operand} {v : K} (zv : V) (hz : vv zv = z) (T : MapT P t k e z) (H : KeyT P k kv ok) (hx : OpD fr x (dX (.map (some b)))) (hy : OpD fr y d) (hd : IsV d (kv v)) (ho : ok v) (hok : ∀ p ∈ m, ok p.1)
    (h1 : ∀ (j : Nat) (hj : j < m.length), m[j].1 = v → WL P ops Q rest (setD fr dst (dT [dX (vv m[j].2), dI j])) (hM b kv vv m :: hp))
    (h2 : (∀ p ∈ m, p.1 ≠ v) → WL P ops Q rest (setD fr dst (dT [dX z, dI m.length])) (hM b kv vv (m ++ [(v, zv)]) :: hp)) :
    WL P ops Q ({ dst := dst, op := .mapEntry t x y, type := ty, pos := ps, after := af, guard := none } :: rest) fr (hM b kv vv m :: hp) := by
  refine WL.of fun P0 B w0 w a hh hf => ?_
  have e1 : a.eval x = _ := hx.ev hf
  have e2 := hd.is _ _ _ (hy.ev hf)
  have hT : ∀ {I : Nat → Prop} {w : World} (u : Value) (n : Int), (dT [dX u, dI n]).rd I w (.tuple #[u, .int .i64 n]) := fun u n => ⟨[u, .int .i64 n], rfl, rfl, fun i e x he hx => by
    match i, he, hx with
    | 0, he, hx => cases he; cases hx; rfl
    | 1, he, hx => cases he; cases hx; rfl⟩
  rcases run_entry T H hok ho (hh.ok (hM b kv vv m) (by simp)) with ⟨j, hj, hjv, hr⟩ | ⟨hne, hr⟩
  · have hrun : (execOp a.eval { dst := dst, op := .mapEntry t x y, type := ty, pos := ps, after := af, guard := none }).run P w = .ok (.value (.tuple #[vv m[j].2, .int .i64 j])) (w.putObj b (mapObj (encM kv vv m))) := by
      unfold execOp
      simp only [e1, e2, Sem.run_bind, hr, Result.andThen_ok, Sem.run_pure]
      rfl
    refine wpList_value rfl hrun ?_
    exact (h1 j hj hjv).on (Hp.putObj hh) (Fr.put (hf.mono fun _ _ hd => Hp.putObj_rd hd) (hT _ _))
  · have hrun : (execOp a.eval { dst := dst, op := .mapEntry t x y, type := ty, pos := ps, after := af, guard := none }).run P w = .ok (.value (.tuple #[z, .int .i64 m.length])) (w.putObj b (mapObj (encM kv vv (m ++ [(v, zv)])))) := by
      unfold execOp
      simp only [e1, e2, Sem.run_bind, hr zv hz, Result.andThen_ok, Sem.run_pure]
      rfl
    refine wpList_value rfl hrun ?_
    exact (h2 hne).on (Hp.putObj hh) (Fr.put (hf.mono fun _ _ hd => Hp.putObj_rd hd) (hT _ _))
theorem WL.entS {x y c : Operand} {j : Nat} {u : V} (hx : OpD fr x (dX (.map (some b)))) (hy : OpD fr y (dI (j : Int))) (hc : OpD fr c d2) (hd2 : IsV d2 (vv u)) (hj : j < m.length)
    (h : WL P ops Q rest (setD fr dst (dX undef)) (hM b kv vv (m.set j (m[j].1, u)) :: hp)) :
    WL P ops Q ({ dst := dst, op := .entryStore t x y c, type := ty, pos := ps, after := af, guard := none } :: rest) fr (hM b kv vv m :: hp) := by
  refine WL.of fun P0 B w0 w a hh hf => ?_
  have h1 : a.eval x = _ := hx.ev hf
  have h2 : a.eval y = .int .i64 j := hy.ev hf
  have h3 := hd2.is _ _ _ (hc.ev hf)
  have hrun : (execOp a.eval { dst := dst, op := .entryStore t x y c, type := ty, pos := ps, after := af, guard := none }).run P w = .ok .skip (w.putObj b (mapObj (encM kv vv (m.set j (m[j].1, u))))) := by
    unfold execOp
    simp only [h1, h2, h3, Sem.run_bind, run_entryStore hj u (hh.ok (hM b kv vv m) (by simp)), Result.andThen_ok, Sem.run_pure]
    rfl
  refine wpList_plain rfl fun K hK => ?_
  unfold Oper.wp
  rw [hrun]
  exact hK _ _ (h.on (Hp.putObj hh) (Fr.put (hf.mono fun _ _ hd => Hp.putObj_rd hd) (d := dX undef) rfl))
theorem SY.lenM {x : Operand} {ats : TypeId} (T : MapT P ats k e z) (hx : OpD fr x (dX (.map (some b)))) (hm : hM b kv vv m ∈ hp) :
    SY P ops hp { dst := dst, op := .call { callee := .builtin .len, args := #[x], argTypes := #[ats] }, type := ty, pos := ps, after := af, guard := g } fr (dI (m.length : Int)) := SY.valE fun {P0 B w0 w a} hh hon => by
  have h1 : a.eval x = _ := hx.get (by simp [Op.operands, Call.operands]) hon
  have hb : w.heap[b]? = some (.map _ _) := hh.ok _ hm
  refine ⟨.int .i64 m.length, w, ?_, Ext.refl _, rfl⟩
  have hr : (Builtin.len_ #[ats] ty #[.map (some b)]).run P w = .ok (.int .i64 m.length) w := by
    simp [Builtin.len_, run_underlying T.under, MapKept.run_getObj_map hb, Result.andThen, goInt, entriesM_len, encM]
  unfold execOp
  simp [resolve, invoke, builtin, h1, hr, Result.andThen]
end
end Go.Proofs.YtgppfikidagfpaaGreatDoor
namespace Go.Proofs.YtgppfikidagfpaaGreatDoor
open Go.RowKit
def MapR {K α : Type} (kv : K → Value) (R : Rel α) : Rel (List (K × α)) := fun P w v m =>
  ∃ (b : Nat) (us : List Value), v = .map (some b) ∧ P b ∧ us.length = m.length ∧ w.heap[b]? = some (mapObj (encM kv id ((m.map (·.1)).zip us))) ∧ ∀ k (h : k < us.length) (h' : k < m.length), R P w us[k] m[k].2
theorem lt_of_heap {w : World} {b : Nat} {o : Obj} (h : w.heap[b]? = some o) : b < w.heap.size := (Array.getElem?_eq_some_iff.1 h).1
instance {K α : Type} (kv : K → Value) (R : Rel α) [Good R] : Good (MapR kv R) where
  weak := fun ⟨b, us, h1, h2, h3, h4, h5⟩ q => ⟨b, us, h1, q b h2, h3, h4, fun k a c => Good.weak (h5 k a c) q⟩
  move := fun ⟨b, us, h1, h2, h3, h4, h5⟩ q => ⟨b, us, h1, h2, h3, (q b h2 (lt_of_heap h4)).trans h4, fun k a c => Good.move (h5 k a c) q⟩
  bound := fun ⟨b, us, h1, h2, h3, h4, h5⟩ => ⟨b, us, h1, ⟨h2, lt_of_heap h4⟩, h3, h4, fun k a c => Good.bound (h5 k a c)⟩
section
variable {P : Program} {ops : Array Oper} {hp : List HObj} {fr : List Dat} {d : Dat}
variable {dst : Option Tmp} {ty : TypeId} {ps : String} {af : Array Edge} {g : Option (Nat × Bool)} {t k e : TypeId} {z : Value} {K α : Type} [DecidableEq K] {kv : K → Value} {ok : K → Prop} {R : Rel α} {m : List (K × α)}
theorem lookM_zip {m : List (K × α)} {us : List Value} (h : us.length = m.length) (x : K) : (lookM m x = none ∧ lookM ((m.map (·.1)).zip us) x = none) ∨ ∃ (j : Nat) (h1 : j < us.length) (h2 : j < m.length), lookM m x = some m[j].2 ∧ lookM ((m.map (·.1)).zip us) x = some us[j] := by
  induction m generalizing us with
  | nil => exact .inl ⟨rfl, by cases us <;> rfl⟩
  | cons p m ih =>
    cases us with
    | nil => simp at h
    | cons u us =>
      by_cases hp : p.1 = x
      · refine .inr ⟨0, by simp, by simp, ?_, ?_⟩
        · unfold lookM; rw [List.find?_cons_of_pos (by simpa using hp)]; rfl
        · unfold lookM; simp only [List.map_cons, List.zip_cons_cons]; rw [List.find?_cons_of_pos (by simpa using hp)]; rfl
      · rcases ih (us := us) (by simpa using h) with ⟨h1, h2⟩ | ⟨j, h1, h2, h3, h4⟩
        · refine .inl ⟨?_, ?_⟩
          · unfold lookM at h1 ⊢; rw [List.find?_cons_of_neg (by simpa using hp)]; exact h1
          · unfold lookM at h2 ⊢; simp only [List.map_cons, List.zip_cons_cons]; rw [List.find?_cons_of_neg (by simpa using hp)]; exact h2
        · refine .inr ⟨j + 1, by simpa using h1, by simpa using h2, ?_, ?_⟩
          · unfold lookM at h3 ⊢; rw [List.find?_cons_of_neg (by simpa using hp)]; exact h3
          · unfold lookM at h4 ⊢; simp only [List.map_cons, List.zip_cons_cons]; rw [List.find?_cons_of_neg (by simpa using hp)]; exact h4
theorem SY.lookR [Good R] {x y : Operand} {v : K} {a0 : α} (T : MapT P t k e z) (H : KeyT P k kv ok) (hx : OpD fr x (dS (MapR kv R) m)) (hy : OpD fr y d) (hd : IsV d (kv v)) (ho : ok v) (hok : ∀ p ∈ m, ok p.1) (hn : (m.map (·.1)).Nodup) (hz : ∀ I w, R I w z a0) :
    SY P ops hp { dst := dst, op := .lookup t x y false, type := ty, pos := ps, after := af, guard := g } fr (dS R ((Go.Proofs.YtgppfikidagfpaaGreatDoor.lookM m v).getD a0)) := SY.val fun {I w a} hon => by
  obtain ⟨b, us, h1, h2, h3, h4, h5⟩ := hx.get (by simp [Op.operands]) hon
  have h6 := hd.is _ _ _ (hy.get (by simp [Op.operands]) hon)
  have hkeys : ((m.map (·.1)).zip us).map (·.1) = m.map (·.1) := by rw [List.map_fst_zip]; simp [h3]
  refine ⟨((Go.Proofs.YtgppfikidagfpaaGreatDoor.lookM ((m.map (·.1)).zip us) v).map id).getD z, ?_, ?_⟩
  · unfold execOp
    simp only [h1, h6, Sem.run_bind, run_lookup (vv := id) T H (fun (p : K × Value) (hp : p ∈ (m.map (·.1)).zip us) => by
      have : p.1 ∈ m.map (·.1) := by rw [← hkeys]; exact List.mem_map_of_mem hp
      obtain ⟨q, hq, he⟩ := List.mem_map.1 this
      rw [← he]; exact hok q hq) (by rw [hkeys]; exact hn) ho h4 false, Result.andThen_ok, Sem.run_pure]
    rfl
  · rcases lookM_zip h3 v with ⟨e1, e2⟩ | ⟨j, j1, j2, e1, e2⟩
    · rw [e1, e2]; exact hz I w
    · rw [e1, e2]; exact h5 j j1 j2
end
theorem FinD.map {hp : List HObj} {b : Nat} {e : TypeId} {K α : Type} {kv : K → Value} {R : Rel α} {_gR : Good R} {M : List (K × Value × List α)} (hm : hM b kv (fun p : Value × List α => p.1) M ∈ hp) (hr : ∀ p ∈ M, hRow p.2.1 e R p.2.2 ∈ hp) :
    FinD hp (dX (.map (some b))) (dS (MapR kv (Arr R)) (M.map fun p => (p.1, p.2.2))) := FinD.mk fun {P0 B w0 w u} hh hd => by
  have hb : w.heap[b]? = some (mapObj _) := hh.ok _ hm
  refine ⟨b, M.map fun p => p.2.1, hd, own_blocks hh hm rfl, by simp, ?_, fun k h1 h2 => ?_⟩
  · rw [hb]
    congr 2
    unfold encM
    simp only [List.map_map]
    rw [List.zip_map', List.map_map]
    rfl
  · have hk : k < M.length := by simpa using h1
    have : Arr R (fun b => P0 b ∨ B ≤ b) w M[k].2.1 M[k].2.2 := (FinD.row (hr _ (List.getElem_mem hk))).out (v := M[k].2.1) hh rfl
    simpa using this
end Go.Proofs.YtgppfikidagfpaaGreatDoor
namespace Go.Proofs.YtgppfikidagfpaaGreatDoor
open Go.RowKit
def hStr (b : Nat) (T : TypeId) (ds : List Dat) : HObj where
  blk := some b
  ok := fun P w => ∃ cs : List Value, w.heap[b]? = some (.cells cs.toArray T) ∧ cs.length = ds.length ∧ (∀ c ∈ cs, c.oneCell' = true) ∧ ∀ (k : Nat) (c : Value) (d : Dat), cs[k]? = some c → ds[k]? = some d → d.rd P w c
  weak := fun h q => by obtain ⟨cs, h1, h2, h3, h4⟩ := h; exact ⟨cs, h1, h2, h3, fun k c d hc hd => d.weak (h4 k c d hc hd) q⟩
  bound := fun h => by obtain ⟨cs, h1, h2, h3, h4⟩ := h; exact ⟨cs, h1, h2, h3, fun k c d hc hd => d.bound (h4 k c d hc hd)⟩
  move := fun h hg hP hne => by
    obtain ⟨cs, h1, h2, h3, h4⟩ := h
    have hlt : b < _ := (Array.getElem?_eq_some_iff.1 h1).1
    refine ⟨cs, (hg.block b hlt ?_).trans h1, h2, h3, fun k c d hc hd => d.grown (h4 k c d hc hd) hg hP⟩
    rcases hne with h | h
    · cases h
    · exact h
def dAgg (ds : List Dat) : Dat where
  rd := fun P w v => ∃ cs : List Value, v = .agg cs.toArray ∧ cs.length = ds.length ∧ (∀ c ∈ cs, c.oneCell' = true) ∧ ∀ (k : Nat) (c : Value) (d : Dat), cs[k]? = some c → ds[k]? = some d → d.rd P w c
  weak := fun ⟨cs, h1, h2, h3, h4⟩ q => ⟨cs, h1, h2, h3, fun k c d hc hd => d.weak (h4 k c d hc hd) q⟩
  move := fun ⟨cs, h1, h2, h3, h4⟩ q => ⟨cs, h1, h2, h3, fun k c d hc hd => d.move (h4 k c d hc hd) q⟩
  bound := fun ⟨cs, h1, h2, h3, h4⟩ => ⟨cs, h1, h2, h3, fun k c d hc hd => d.bound (h4 k c d hc hd)⟩
theorem shape_Agg {ds : List Dat} {n : Nat} (hn : 0 < n) (hl : ds.length = n) : (dAgg ds).Shape n true := fun _ _ _ h => by
  obtain ⟨cs, rfl, h2, h3, _⟩ := h
  exact ⟨cs, by omega, by omega, h3, rfl, rfl⟩
structure StrT (P : Program) (T : TypeId) (n : Nat) : Prop where
  fld : ∀ b off i w, i < n → (Instr.fieldAt T (.pointer (some ⟨b, off, none⟩)) i).run P w = .ok (.pointer (some ⟨b, off + i, none⟩)) w
section
variable {P : Program} {ops : Array Oper} {hp : List HObj} {fr : List Dat} {d : Dat} {Q : Post} {rest : List Oper}
variable {dst : Option Tmp} {ty : TypeId} {ps : String} {af : Array Edge} {g : Option (Nat × Bool)} {T T1 T2 : TypeId} {b off k n : Nat} {ds ds' : List Dat}
theorem WL.allocS {zs : List Value} (hz : TyZ P T (.agg zs.toArray)) (hn : 0 < zs.length) (h1 : ∀ c ∈ zs, c.oneCell' = true) (h : ∀ b, WL P ops Q rest (setD fr dst (dX (.pointer (some ⟨b, 0, none⟩)))) (hStr b T (zs.map dX) :: hp)) :
    WL P ops Q ({ dst := dst, op := .alloc T, type := ty, pos := ps, after := af, guard := none } :: rest) fr hp :=
  WL.alloc (n := zs.length) (agg := true) hz (fun _ _ _ q => by cases (q : _ = _); exact ⟨zs, rfl, hn, h1, rfl, rfl⟩) fun b => WL.of fun P0 B w0 w a hh hf => by
    obtain ⟨cs, u, c1, c2, c0, c3, c4, c5⟩ := hh.ok (hCell b T zs.length true (dX (.agg zs.toArray))) (by simp)
    have hu : u = .agg zs.toArray := c5
    simp only [if_true] at c4
    rw [hu] at c4
    have hcs : zs = cs := by injection c4 with c4; exact List.toArray_inj c4
    subst hcs
    have hgr : w.grownBy w (hCell b T zs.length true (dX (.agg zs.toArray))).blk := ⟨rfl, rfl, rfl, Nat.le_refl _, fun _ _ _ => rfl⟩
    have hok : (hStr b T (zs.map dX)).ok (fun k => Imm P0 B (hCell b T zs.length true (dX (.agg zs.toArray)) :: hp) k ∧ k < w.heap.size) w :=
      ⟨zs, c1, by simp, h1, fun k c d hc hd => by
        rw [List.getElem?_map, hc] at hd
        cases hd
        rfl⟩
    exact (h b).on (hh.write hgr (.inl rfl) hok) (hf.mono fun _ _ hd => Hp.written (o' := hStr b T (zs.map dX)) hgr (.inl rfl) hd)
theorem SY.fldS {x : Operand} {i : Nat} (S : StrT P T n) (hx : OpD fr x (dX (.pointer (some ⟨b, off, none⟩)))) (hi : i < n) :
    SY P ops hp { dst := dst, op := .fieldAddr T x i, type := ty, pos := ps, after := af, guard := g } fr (dX (.pointer (some ⟨b, off + i, none⟩))) := SY.val fun {I w a} ho => by
  have h1 : a.eval x = _ := hx.get (by simp [Op.operands]) ho
  refine ⟨_, ?_, rfl⟩
  unfold execOp
  simp only [h1, Sem.run_bind, S.fld b off i w hi, Result.andThen_ok, Sem.run_pure]
theorem str_cell {I : Nat → Prop} {w : World} (h : (hStr b T2 ds).ok I w) (hk : ds[k]? = some d) : ∃ c, w.cell? ⟨b, k, none⟩ = some c ∧ c.oneCell' = true ∧ d.rd I w c := by
  obtain ⟨cs, c1, c2, c3, c4⟩ := h
  have hlt := (List.getElem?_eq_some_iff.1 hk).1
  have hl : k < cs.length := by omega
  exact ⟨cs[k], by simp [World.cell?, c1, hl], c3 _ (List.getElem_mem hl), c4 k _ d (List.getElem?_eq_getElem hl) hk⟩
theorem SY.loadS {x : Operand} (T' : TyI P T1 1 false) (hx : OpD fr x (dX (.pointer (some ⟨b, k, none⟩)))) (hm : hStr b T2 ds ∈ hp) (hk : ds[k]? = some d) :
    SY P ops hp { dst := dst, op := .load T1 x, type := ty, pos := ps, after := af, guard := g } fr d := SY.valE fun {P0 B w0 w a} hh ho => by
  have h1 : a.eval x = .pointer (some ⟨b, k, none⟩) := hx.get (by simp [Op.operands]) ho
  obtain ⟨c, q1, q2, q3⟩ := str_cell (hh.ok _ hm) hk
  have hc : Cells (fun _ => True) w b k 1 false c := by
    refine ⟨trivial, [c], rfl, by decide, by simp [q2], fun i c' hc => ?_, rfl⟩
    have hi : i = 0 := by
      have := (List.getElem?_eq_some_iff.1 hc).1
      simp at this; exact this
    subst hi
    cases hc
    exact q1
  refine ⟨c, w, ?_, Ext.refl _, q3⟩
  unfold execOp
  simp only [h1, Sem.run_bind, run_loadC T' hc, Result.andThen_ok, Sem.run_pure]
theorem SY.loadW {x : Operand} (T' : TyI P T1 n true) (hx : OpD fr x (dX (.pointer (some ⟨b, 0, none⟩)))) (hm : hStr b T2 ds ∈ hp) (hn : 0 < n) (hl : ds.length = n) :
    SY P ops hp { dst := dst, op := .load T1 x, type := ty, pos := ps, after := af, guard := g } fr (dAgg ds) := SY.valE fun {P0 B w0 w a} hh ho => by
  have h1 : a.eval x = .pointer (some ⟨b, 0, none⟩) := hx.get (by simp [Op.operands]) ho
  obtain ⟨cs, c1, c2, c3, c4⟩ := hh.ok _ hm
  have hc : Cells (fun _ => True) w b 0 n true (.agg cs.toArray) := by
    refine ⟨trivial, cs, by omega, hn, c3, fun j c hc => ?_, rfl⟩
    simp [World.cell?, c1, hc]
  refine ⟨_, w, ?_, Ext.refl _, cs, rfl, c2, c3, c4⟩
  unfold execOp
  simp only [h1, Sem.run_bind, run_loadC T' hc, Result.andThen_ok, Sem.run_pure]
theorem WL.storeS {t : Nat} {x : Operand} (T' : TyI P T1 1 false) (hp0 : OpD fr (.tmp t) (dX (.pointer (some ⟨b, k, none⟩)))) (hx : OpD fr x d) (hs : d.Shape 1 false) (hk : k < ds.length)
    (h : WL P ops Q rest (setD fr dst (dX undef)) (hStr b T2 (ds.set k d) :: hp)) :
    WL P ops Q ({ dst := dst, op := .store T1 (.tmp t) x, type := ty, pos := ps, after := af, guard := none } :: rest) fr (hStr b T2 ds :: hp) := by
  refine WL.of fun P0 B w0 w a hh hf => ?_
  obtain ⟨cs, c1, c2, c3, c4⟩ := hh.ok (hStr b T2 ds) (by simp)
  have h1 : a.eval (.tmp t) = _ := hp0.ev hf
  have hd : d.rd (Imm P0 B (hStr b T2 ds :: hp)) w (a.eval x) := hx.ev hf
  obtain ⟨us, u1, u0, u2, u3, u4⟩ := hs _ _ _ hd
  obtain ⟨u, rfl⟩ : ∃ u, us = [u] := List.length_eq_one_iff.1 u1
  have hu : a.eval x = u := by
    simp only [Bool.false_eq_true, if_false] at u4
    exact (List.cons.inj u4).1.symm
  have hone : u.oneCell' = true := u2 u (by simp)
  have hdu : d.rd (Imm P0 B (hStr b T2 ds :: hp)) w u := by rw [hu] at hd; exact hd
  have hkc : k < cs.length := by omega
  have hset := setCell_eq_setRow w b k cs.toArray T2 (0, 0) u c1
  have hc : w.cell? ⟨b, k, none⟩ = some cs[k] := by simp [World.cell?, c1, hkc]
  have hfz : w.frozen? ⟨b, k, none⟩ = false := by simp [World.frozen?, c1]
  have hst : (store ((⟨b, k, none⟩ : Addr).add 0) u).run P w = .ok () (w.setCell ⟨b, k, none⟩ u) := by
    rw [show ((⟨b, k, none⟩ : Addr).add 0) = ⟨b, k, none⟩ from rfl, run_store P w _ u _ hone, hc]
    simp [hfz]
  have hsz : (sizeOf T1).run P w = .ok 1 w := by
    have h5 := T'.size
    cases hq : P.info? T1 with
    | none => rw [hq] at h5; cases h5
    | some i =>
      rw [hq] at h5
      have : i.size = 1 := by simpa using h5
      rw [← this]
      rw [run_sizeOf w hq]
      simp [Program.cellsOf, hq]
  have hw : w.setCell ⟨b, k, none⟩ u = w.setRow b (cs.set k u).toArray := by rw [hset]; simp
  have hrun : (execOp a.eval { dst := dst, op := .store T1 (.tmp t) x, type := ty, pos := ps, after := af, guard := none }).run P w = .ok .skip (w.setRow b (cs.set k u).toArray) := by
    rw [← hw]
    unfold execOp
    simp only [h1, hu, Instr.storeAt, Instr.sureAddr, storeVar, Sem.run_bind, hsz, Result.andThen_ok, Sem.run_pure]
    simp [cells_one hone, storeCells, hst]
  refine wpList_plain rfl fun K hK => ?_
  unfold Oper.wp
  rw [hrun]
  have hgr : w.grownBy (w.setRow b (cs.set k u).toArray) (hStr b T2 ds).blk := grown_setRow
  have hok : (hStr b T2 (ds.set k d)).ok (fun j => Imm P0 B (hStr b T2 ds :: hp) j ∧ j < w.heap.size) (w.setRow b (cs.set k u).toArray) := by
    refine ⟨cs.set k u, setRow_heap w b _ _ _ _ c1, by simp [c2], fun c hc => ?_, fun j c e hc he => ?_⟩
    · rcases List.mem_or_eq_of_mem_set hc with hc | rfl
      · exact c3 c hc
      · exact hone
    · rw [List.getElem?_set] at hc he
      by_cases hjk : k = j
      · rw [if_pos hjk, if_pos (by omega)] at hc he
        cases hc; cases he
        exact d.grown (d.bound hdu) hgr fun j q hj => hj.1.2 (hStr b T2 ds) (by simp) q
      · rw [if_neg hjk] at hc he
        exact e.grown (e.bound (c4 j c e hc he)) hgr fun j q hj => hj.1.2 (hStr b T2 ds) (by simp) q
  exact hK _ _ (h.on (hh.write hgr (.inl rfl) hok) (Fr.put (hf.mono fun _ _ hd => Hp.written (o' := hStr b T2 (ds.set k d)) hgr (.inl rfl) hd) (d := dX undef) rfl))
theorem WL.storeW {t : Nat} {x : Operand} (T' : TyI P T1 n true) (hp0 : OpD fr (.tmp t) (dX (.pointer (some ⟨b, 0, none⟩)))) (hx : OpD fr x (dAgg ds')) (hl : ds.length = n) (hl' : ds'.length = n)
    (h : WL P ops Q rest (setD fr dst (dX undef)) (hStr b T2 ds' :: hp)) :
    WL P ops Q ({ dst := dst, op := .store T1 (.tmp t) x, type := ty, pos := ps, after := af, guard := none } :: rest) fr (hStr b T2 ds :: hp) := by
  refine WL.of fun P0 B w0 w a hh hf => ?_
  obtain ⟨cs, c1, c2, c3, c4⟩ := hh.ok (hStr b T2 ds) (by simp)
  have h1 : a.eval (.tmp t) = _ := hp0.ev hf
  obtain ⟨us, u1, u2, u3, u4⟩ := (hx.ev hf : (dAgg ds').rd (Imm P0 B (hStr b T2 ds :: hp)) w (a.eval x))
  have hr := run_storeC (u := a.eval x) (cs := cs) (cs' := us) T'.size c1 (by omega) (by omega) u3 (by rw [u1]; rfl)
  have hrun : (execOp a.eval { dst := dst, op := .store T1 (.tmp t) x, type := ty, pos := ps, after := af, guard := none }).run P w = .ok .skip (w.setRow b us.toArray) := by
    unfold execOp
    simp only [h1, Sem.run_bind, hr, Result.andThen_ok, Sem.run_pure]
  refine wpList_plain rfl fun K hK => ?_
  unfold Oper.wp
  rw [hrun]
  have hgr : w.grownBy (w.setRow b us.toArray) (hStr b T2 ds).blk := grown_setRow
  have hok : (hStr b T2 ds').ok (fun j => Imm P0 B (hStr b T2 ds :: hp) j ∧ j < w.heap.size) (w.setRow b us.toArray) :=
    ⟨us, setRow_heap w b _ _ _ _ c1, u2, u3, fun j c e hc he => e.grown (e.bound (u4 j c e hc he)) hgr fun j q hj => hj.1.2 (hStr b T2 ds) (by simp) q⟩
  exact hK _ _ (h.on (hh.write hgr (.inl rfl) hok) (Fr.put (hf.mono fun _ _ hd => Hp.written (o' := hStr b T2 ds') hgr (.inl rfl) hd) (d := dX undef) rfl))
end
def R3 {α β γ : Type} (R : Rel α) (S : Rel β) (T : Rel γ) : Rel (α × β × γ) := fun P w v x => ∃ u u' u'', v = .agg #[u, u', u''] ∧ (u.oneCell' = true ∧ u'.oneCell' = true ∧ u''.oneCell' = true) ∧ R P w u x.1 ∧ S P w u' x.2.1 ∧ T P w u'' x.2.2
instance {α β γ : Type} (R : Rel α) (S : Rel β) (T : Rel γ) [Good R] [Good S] [Good T] : Good (R3 R S T) where
  weak := fun ⟨u, u', u'', h1, h0, h2, h3, h4⟩ q => ⟨u, u', u'', h1, h0, Good.weak h2 q, Good.weak h3 q, Good.weak h4 q⟩
  move := fun ⟨u, u', u'', h1, h0, h2, h3, h4⟩ q => ⟨u, u', u'', h1, h0, Good.move h2 q, Good.move h3 q, Good.move h4 q⟩
  bound := fun ⟨u, u', u'', h1, h0, h2, h3, h4⟩ => ⟨u, u', u'', h1, h0, Good.bound h2, Good.bound h3, Good.bound h4⟩
section
variable {α β γ : Type} {R : Rel α} {S : Rel β} {T : Rel γ} [Good R] [Good S] [Good T] {x : α} {y : β} {z : γ}
theorem shape_R3 {p : α × β × γ} : (dS (R3 R S T) p).Shape 3 true := fun _ _ _ h => by
  obtain ⟨u, u', u'', rfl, ⟨h0, h1, h2⟩, _⟩ := h
  exact ⟨[u, u', u''], rfl, by omega, fun c hc => by
    simp only [List.mem_cons, List.not_mem_nil, or_false] at hc
    rcases hc with rfl | rfl | rfl <;> assumption, rfl, rfl⟩
theorem agg_R3 : (dAgg [dS R x, dS S y, dS T z]).le (dS (R3 R S T) (x, y, z)) := fun _ _ _ h => by
  obtain ⟨cs, rfl, h2, h3, h4⟩ := h
  match cs, h2 with
  | [u, u', u''], _ => exact ⟨u, u', u'', rfl, ⟨h3 u (by simp), h3 u' (by simp), h3 u'' (by simp)⟩, h4 0 u _ rfl rfl, h4 1 u' _ rfl rfl, h4 2 u'' _ rfl rfl⟩
theorem R3_agg {p : α × β × γ} : (dS (R3 R S T) p).le (dAgg [dS R p.1, dS S p.2.1, dS T p.2.2]) := fun _ _ _ h => by
  obtain ⟨u, u', u'', rfl, ⟨h0, h1, h2⟩, h3, h4, h5⟩ := h
  refine ⟨[u, u', u''], rfl, rfl, fun c hc => ?_, fun k c d hc hd => ?_⟩
  · simp only [List.mem_cons, List.not_mem_nil, or_false] at hc
    rcases hc with rfl | rfl | rfl <;> assumption
  · match k, hc, hd with
    | 0, hc, hd => cases hc; cases hd; exact h3
    | 1, hc, hd => cases hc; cases hd; exact h4
    | 2, hc, hd => cases hc; cases hd; exact h5
end
end Go.Proofs.YtgppfikidagfpaaGreatDoor
namespace Go.Proofs.YtgppfikidagfpaaGreatDoor
open Go.RowKit

theorem elV : ElT Tryz.prog 22 52 2 (.agg #[.int .i64 0, .int .i64 0]) 16 true := ⟨Tryz.underlying22, by kernel_rfl, Tryz.isAgg52, rfl⟩
theorem elSi : ElT Tryz.prog 37 22 1 (.slice none 0 0) 24 false := ⟨Tryz.underlying37, by kernel_rfl, Tryz.isAgg22, rfl⟩
theorem elI : ElT Tryz.prog 23 3 1 (.int .i64 0) 8 false := ⟨Tryz.underlying23, by kernel_rfl, Tryz.isAgg3, rfl⟩
theorem elE : ElT Tryz.prog 189 28 1 (.int .i64 0) 8 false := ⟨Tryz.underlying189, by kernel_rfl, Tryz.isAgg28, rfl⟩
theorem tyV : TyI Tryz.prog 52 2 true := ⟨by kernel_rfl, Tryz.isAgg52⟩
theorem tySi : TyI Tryz.prog 22 1 false := ⟨by kernel_rfl, Tryz.isAgg22⟩
theorem tyI : TyI Tryz.prog 3 1 false := ⟨by kernel_rfl, Tryz.isAgg3⟩
theorem tyE : TyI Tryz.prog 28 1 false := ⟨by kernel_rfl, Tryz.isAgg28⟩
theorem tzV : TyZ Tryz.prog 52 (.agg #[.int .i64 0, .int .i64 0]) := ⟨by kernel_rfl⟩
theorem vxT : VxT Tryz.prog 52 := by
  constructor
  · intro b off w; go_simp
  · intro b off w; go_simp
  · intro x y p q p' q' w; go_simp; by_cases h : p = p' <;> by_cases h' : q = q' <;> simp [h, h']
  · intro x y p q p' q' w; go_simp; by_cases h : p = p' <;> by_cases h' : q = q' <;> simp [h, h']
  · intro p q w; go_simp
  · intro p w; go_simp
  · intro q w; go_simp
theorem eqBB : ∀ (x y : Operand) (p q : Bool) w, (do eqGuard .eql 4 x y (.bool p) (.bool q); Go.binOp .eql 4 (.bool p) (.bool q)).run Tryz.prog w = .ok (.bool (p == q)) w := by
  intro x y p q w; cases p <;> cases q <;> go_simp
theorem nqBB : ∀ (x y : Operand) (p q : Bool) w, (do eqGuard .neq 4 x y (.bool p) (.bool q); Go.binOp .neq 4 (.bool p) (.bool q)).run Tryz.prog w = .ok (.bool (p != q)) w := by
  intro x y p q w; cases p <;> cases q <;> go_simp
theorem eqNilV : ∀ (x y : Operand) ad m c w, (do eqGuard .eql 22 x y (.slice ad m c) (.slice none 0 0); Go.binOp .eql 22 (.slice ad m c) (.slice none 0 0)).run Tryz.prog w = .ok (.bool ad.isNone) w := by
  intro x y ad m c w
  cases ad <;> (go_simp; try (unfold Go.binOp; simp only; unfold Op.equal Op.maxDepth Op.equalIn; simp [run_underlying Tryz.underlying22]))

end Go.Proofs.YtgppfikidagfpaaGreatDoor
namespace Go.Proofs.YtgppfikidagfpaaGreatDoor
open Go.RowKit
def R1 {α : Type} (R : Rel α) : Rel α := fun P w v x => ∃ u, v = .agg #[u] ∧ u.oneCell' = true ∧ R P w u x
instance {α : Type} (R : Rel α) [Good R] : Good (R1 R) where
  weak := fun ⟨u, h1, h0, h2⟩ q => ⟨u, h1, h0, Good.weak h2 q⟩
  move := fun ⟨u, h1, h0, h2⟩ q => ⟨u, h1, h0, Good.move h2 q⟩
  bound := fun ⟨u, h1, h0, h2⟩ => ⟨u, h1, h0, Good.bound h2⟩
abbrev Cpx : Rel (List (List (Int × Int))) := R1 Simps
theorem shape_C {α : Type} {R : Rel α} [Good R] {x : α} : (dS (R1 R) x).Shape 1 true := fun _ _ _ h => by
  obtain ⟨u, rfl, h0, _⟩ := h
  exact ⟨[u], rfl, Nat.one_pos, fun c hc => by rw [List.mem_singleton.1 hc]; exact h0, rfl, rfl⟩
theorem shape_C0 {u : Value} (h0 : u.oneCell' = true) : (dX (.agg #[u])).Shape 1 true := fun _ _ _ h => by
  cases (h : _ = _)
  exact ⟨[u], rfl, Nat.one_pos, fun c hc => by rw [List.mem_singleton.1 hc]; exact h0, rfl, rfl⟩
theorem le_C {α : Type} {R : Rel α} [Good R] {xs : List α} : ∀ (I : Nat → Prop) (w : World) (v : Value), (dS (R1 (Arr R)) xs).rd I w v → xs.length ≤ maxLen := fun _ _ _ h => by obtain ⟨_, _, _, h⟩ := h; exact le_A _ _ _ h
structure CpxT (P : Program) (T : TypeId) : Prop where
  fld : ∀ b off w, (Instr.fieldAt T (.pointer (some ⟨b, off, none⟩)) 0).run P w = .ok (.pointer (some ⟨b, off, none⟩)) w
  mkc : ∀ a n c w, (Instr.build T #[(0, .slice a n c)]).run P w = .ok (.agg #[.slice a n c]) w
  mkc0 : ∀ w, (Instr.build T #[]).run P w = .ok (.agg #[.slice none 0 0]) w
theorem cpxT : CpxT Tryz.prog 39 := by
  constructor
  · intro b off w; go_simp
  · intro a n c w; go_simp
  · intro w; go_simp
theorem tyC : TyI Tryz.prog 39 1 true := ⟨by kernel_rfl, Tryz.isAgg39⟩
theorem tzC : TyZ Tryz.prog 39 (.agg #[.slice none 0 0]) := ⟨by kernel_rfl⟩
theorem tySS : TyI Tryz.prog 37 1 false := ⟨by kernel_rfl, Tryz.isAgg37⟩
section
variable {P : Program} {ops : Array Oper} {hp : List HObj} {fr : List Dat} {d : Dat} {Q : Post} {rest : List Oper}
variable {dst : Option Tmp} {ty : TypeId} {ps : String} {af : Array Edge} {g : Option (Nat × Bool)} {T : TypeId} (V : CpxT P T)
include V
theorem SY.fldC {α : Type} {R : Rel α} {_gR : Good R} {x : Operand} {xs : α} (hx : OpD fr x (dP 1 true (dS (R1 R) xs))) : SY P ops hp { dst := dst, op := .fieldAddr T x 0, type := ty, pos := ps, after := af, guard := g } fr (dP 1 false (dS R xs)) := SY.val fun {I w a} ho => by
  obtain ⟨b, off, u, h1, ⟨hb, cs, k1, k0, k2, k3, k4⟩, u0, hu, h0, h3⟩ := hx.get (by simp [Op.operands]) ho
  simp only [if_true] at k4
  rw [k4] at hu
  have hcs : cs = [u0] := by injection hu with hu; exact List.toArray_inj hu
  subst hcs
  refine ⟨_, ?_, b, off, u0, rfl, ⟨hb, [u0], rfl, Nat.one_pos, by simp [h0], fun j c hc => k3 j c hc, rfl⟩, h3⟩
  unfold execOp
  simp only [h1, Sem.run_bind, V.fld, Result.andThen_ok, Sem.run_pure]
theorem SY.fldX {x : Operand} {b : Nat} (hx : OpD fr x (dX (.pointer (some ⟨b, 0, none⟩)))) : SY P ops hp { dst := dst, op := .fieldAddr T x 0, type := ty, pos := ps, after := af, guard := g } fr (dX (.pointer (some ⟨b, 0, none⟩))) := SY.val fun {I w a} ho => by
  have h1 : a.eval x = .pointer (some ⟨b, 0, none⟩) := hx.get (by simp [Op.operands]) ho
  refine ⟨_, ?_, rfl⟩
  unfold execOp
  simp only [h1, Sem.run_bind, V.fld, Result.andThen_ok, Sem.run_pure]
theorem SY.mkC {α : Type} {R : Rel α} {_gR : Good R} {x : Operand} {xs : List α} (hx : OpD fr x (dS (Arr R) xs)) : SY P ops hp { dst := dst, op := .build T #[(0, x)], type := ty, pos := ps, after := af, guard := g } fr (dS (R1 (Arr R)) xs) := SY.val fun {I w a} ho => by
  have h1 : Arr R I w (a.eval x) xs := hx.get (by simp [Op.operands]) ho
  have h2 := h1
  obtain ⟨ad, c, hv, _⟩ := h2
  rw [hv] at h1
  refine ⟨.agg #[.slice ad xs.length c], ?_, _, rfl, rfl, h1⟩
  unfold execOp
  simp only [List.map_toArray, List.map_cons, List.map_nil, hv, Sem.run_bind, V.mkc, Result.andThen_ok, Sem.run_pure]
theorem SY.mkC0 : SY P ops hp { dst := dst, op := .build T #[], type := ty, pos := ps, after := af, guard := g } fr (dS Cpx []) := SY.val fun {I w a} ho => by
  refine ⟨.agg #[.slice none 0 0], ?_, _, rfl, rfl, Arr.nil'⟩
  unfold execOp
  simp only [List.map_toArray, List.map_nil, Sem.run_bind, V.mkc0, Result.andThen_ok, Sem.run_pure]
end
theorem run_loadVarC {P : Program} {T : TypeId} {n : Nat} {agg : Bool} (T' : TyI P T n agg) {I : Nat → Prop} {w : World} {b off : Nat} {u : Value} (h : Cells I w b off n agg u) : (loadVar T ⟨b, off, none⟩).run P w = .ok u w := by
  have h1 := run_loadC T' h
  simpa [Instr.loadAt, Instr.sureAddr] using h1
theorem results_cellC {P : Program} {fn : Func} {t : Tmp} {T : TypeId} {n : Nat} {agg : Bool} (T' : TyI P T n agg) (hr : fn.results = #[.cell t T]) {I : Nat → Prop} {w : World} {tmps : Array Value} {b off : Nat} {u : Value} (hp : tmps.getD t undef = .pointer (some ⟨b, off, none⟩)) (h : Cells I w b off n agg u) : (results fn tmps).run P w = .ok u w := by
  have h1 := run_loadVarC T' h
  have hp' : tmps[t]?.getD undef = .pointer (some ⟨b, off, none⟩) := by simpa using hp
  simp [results, hr, hp', asAddr, h1]
theorem results_cellC2 {P : Program} {fn : Func} {t t2 : Tmp} {T : TypeId} {n : Nat} {agg : Bool} (T' : TyI P T n agg) (hr : fn.results = #[.cell t T, .tmp t2]) {I : Nat → Prop} {w : World} {tmps : Array Value} {b off : Nat} {u : Value} (hp : tmps.getD t undef = .pointer (some ⟨b, off, none⟩)) (h : Cells I w b off n agg u) : (results fn tmps).run P w = .ok (.tuple #[u, tmps.getD t2 undef]) w := by
  have h1 := run_loadVarC T' h
  have hp' : tmps[t]?.getD undef = .pointer (some ⟨b, off, none⟩) := by simpa using hp
  simp [results, hr, hp', asAddr, h1]
section
variable {P : Program} {hp : List HObj} {d : Dat}
def finC1 (t : Nat) (n : Nat) (agg : Bool) (res : Dat) : Post := fun e fr hp => (match e with | .normal | .ret => True | _ => False) ∧ ∃ d, fr[t]? = some (dP n agg d) ∧ FinD hp d res
def finC2 (t u : Nat) (n : Nat) (agg : Bool) (r s : Dat) : Post := fun e fr hp => (match e with | .normal | .ret => True | _ => False) ∧ (∃ d, fr[t]? = some (dP n agg d) ∧ FinD hp d r) ∧ ∃ d, fr[u]? = some d ∧ FinD hp d s
theorem Fn.introC1 {f : FuncId} {fn : Func} {c : Code} {args : List Dat} {res : Dat} {t : Tmp} {T : TypeId} {n : Nat} {agg : Bool} (T' : TyI P T n agg) (hf : P.funcs[f]? = some fn) (hb : fn.body = some c) (hr : fn.results = #[.cell t T])
    (h : WC P (finC1 t n agg res) c (args ++ List.replicate (fn.ntmps - args.length) (dX undef)) []) : Fn P f args res :=
  Fn.intro hf hb (fun e fr hp q => by
    obtain ⟨he, d, hd, hfin⟩ := q
    refine ⟨by cases e <;> simp_all, fun {P0 B w0 w a} hh hf' => ?_⟩
    obtain ⟨b, off, u, h1, h2, h3⟩ := hf'.rd t _ hd
    exact ⟨u, results_cellC T' hr h1 h2, hfin.out hh h3⟩) h
theorem Fn.introC2 {f : FuncId} {fn : Func} {c : Code} {args : List Dat} {r s : Dat} {t t2 : Tmp} {T : TypeId} {n : Nat} {agg : Bool} (T' : TyI P T n agg) (hf : P.funcs[f]? = some fn) (hb : fn.body = some c) (hr : fn.results = #[.cell t T, .tmp t2])
    (h : WC P (finC2 t t2 n agg r s) c (args ++ List.replicate (fn.ntmps - args.length) (dX undef)) []) : Fn P f args (dT [r, s]) :=
  Fn.intro hf hb (fun e fr hp q => by
    obtain ⟨he, ⟨d, hd, hfin⟩, d', hd', hfin'⟩ := q
    refine ⟨by cases e <;> simp_all, fun {P0 B w0 w a} hh hf' => ?_⟩
    obtain ⟨b, off, u, h1, h2, h3⟩ := hf'.rd t _ hd
    refine ⟨_, results_cellC2 T' hr h1 h2, [u, a.tmps.getD t2 undef], rfl, rfl, fun i e x he hx => ?_⟩
    match i, he, hx with
    | 0, he, hx => cases he; cases hx; exact hfin.out hh h3
    | 1, he, hx => cases he; cases hx; exact hfin'.out hh (hf'.rd t2 d' hd')) h
theorem FinD.rowC {v : Value} {e : TypeId} {α : Type} {R : Rel α} [Good R] {xs : List α} (h : hRow v e R xs ∈ hp) : FinD hp (dX (.agg #[v])) (dS (R1 (Arr R)) xs) := FinD.mk fun {P0 B w0 w u} hh hd => by
  cases (hd : u = _)
  have h1 := (FinD.row h).out (v := v) hh rfl
  have h2 := h1
  obtain ⟨a, c, hv, _⟩ := h2
  subst hv
  exact ⟨_, rfl, rfl, h1⟩
end
end Go.Proofs.YtgppfikidagfpaaGreatDoor
namespace Go.Proofs.YtgppfikidagfpaaGreatDoor
open Go.RowKit
def R2 {α β : Type} (R : Rel α) (S : Rel β) : Rel (α × β) := fun P w v x => ∃ u u', v = .agg #[u, u'] ∧ u.oneCell' = true ∧ u'.oneCell' = true ∧ R P w u x.1 ∧ S P w u' x.2
instance {α β : Type} (R : Rel α) (S : Rel β) [Good R] [Good S] : Good (R2 R S) where
  weak := fun ⟨u, u', h1, h0, h0', h2, h3⟩ q => ⟨u, u', h1, h0, h0', Good.weak h2 q, Good.weak h3 q⟩
  move := fun ⟨u, u', h1, h0, h0', h2, h3⟩ q => ⟨u, u', h1, h0, h0', Good.move h2 q, Good.move h3 q⟩
  bound := fun ⟨u, u', h1, h0, h0', h2, h3⟩ => ⟨u, u', h1, h0, h0', Good.bound h2, Good.bound h3⟩
theorem shape_P {α β : Type} {R : Rel α} {S : Rel β} [Good R] [Good S] {x : α × β} : (dS (R2 R S) x).Shape 2 true := fun _ _ _ h => by
  obtain ⟨u, u', rfl, h0, h0', _, _⟩ := h
  exact ⟨[u, u'], rfl, by omega, fun c hc => by
    simp only [List.mem_cons, List.not_mem_nil, or_false] at hc
    rcases hc with rfl | rfl <;> assumption, rfl, rfl⟩
structure ColT (P : Program) (T : TypeId) : Prop where
  fld0 : ∀ b off w, (Instr.fieldAt T (.pointer (some ⟨b, off, none⟩)) 0).run P w = .ok (.pointer (some ⟨b, off + 0, none⟩)) w
  fld1 : ∀ b off w, (Instr.fieldAt T (.pointer (some ⟨b, off, none⟩)) 1).run P w = .ok (.pointer (some ⟨b, off + 1, none⟩)) w
  mkp : ∀ a n c a' n' c' w, (Instr.build T #[(0, .slice a n c), (1, .slice a' n' c')]).run P w = .ok (.agg #[.slice a n c, .slice a' n' c']) w
end Go.Proofs.YtgppfikidagfpaaGreatDoor
