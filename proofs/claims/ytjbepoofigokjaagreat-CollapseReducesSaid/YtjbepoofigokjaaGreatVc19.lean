/-
  Part 19 of the texts that the claims of this seat lean on: walks of the program's functions by contracts over symbolic frames, and plain laws of what they compute. No condition.
-/
import Derived.Test.YtjbepoofigokjaaGreatVc11
import Derived.Test.YtjbepoofigokjaaGreatVc14
import Derived.Test.YtjbepoofigokjaaGreatVc17
import Derived.Test.YtjbepoofigokjaaGreatVc18
set_option linter.unusedVariables false
set_option linter.unusedSimpArgs false
set_option linter.unusedSectionVars false
namespace Go.Proofs.YtjbepoofigokjaaGreat
open Go.RowKit

abbrev hM {K V : Type} (b : Nat) (kv : K → Value) (vv : V → Value) (m : List (K × V)) : HObj := hObj b (mapObj (encM kv vv m))
structure IsV (d : Dat) (v : Value) : Prop where
  is : ∀ (I : Nat → Prop) (w : World) (u : Value), d.rd I w u → u = v
theorem isX {v : Value} : IsV (dX v) v := ⟨fun _ _ _ h => h⟩
theorem isI {n : Int} : IsV (dI n) (.int .i64 n) := ⟨fun _ _ _ h => h⟩
section
variable {P : Program} {ops : Array Oper} {hp : List HObj} {o : Oper} {fr : List Dat} {d d2 : Dat} {Q : Post} {rest : List Oper}
variable {dst : Option Tmp} {ty : TypeId} {ps : String} {af : Array Edge} {g : Option (Nat × Bool)} {t k e : TypeId} {z : Value} {K V : Type} {kv : K → Value} {ok : K → Prop} {vv : V → Value} {b : Nat} {m : List (K × V)}
theorem WL.makeMap (kv : K → Value) (vv : V → Value) (h : ∀ b, WL P ops Q rest (setD fr dst (dX (.map (some b)))) (hM b kv vv [] :: hp)) :
    WL P ops Q ({ dst := dst, op := .makeMap t none, type := ty, pos := ps, after := af, guard := none } :: rest) fr hp := by
  refine WL.of fun P0 B w0 w a hh hf => ?_
  have hrun : (execOp a.eval { dst := dst, op := .makeMap t none, type := ty, pos := ps, after := af, guard := none }).run P w = .ok (.value (.map (some w.heap.size))) (w.alloc (mapObj [])) := by
    unfold execOp
    simp [Instr.makeMap, mapObj, entriesM]
  refine wpList_value rfl hrun ?_
  have hx := Ext.of_alloc w (mapObj [])
  have hb : ∀ k, (hM w.heap.size kv vv []).blk = some k → w.heap.size ≤ k ∧ k < (w.alloc (mapObj [])).heap.size := fun k hk => by
    cases hk
    exact ⟨Nat.le_refl _, by simp⟩
  refine (h w.heap.size).on (hh.push hx hb (alloc_get w _)) ?_
  exact Fr.put (hf.mono fun d _ hd => Hp.pushed hx (fun k hk => (hb k hk).1) hd) rfl
section
variable [DecidableEq K]
theorem SY.lookM {x y : Operand} {v : K} (T : MapT P t k e z) (H : KeyT P k kv ok) (hx : OpD fr x (dX (.map (some b)))) (hm : hM b kv vv m ∈ hp) (hy : OpD fr y d) (hd : IsV d (kv v)) (ho : ok v) (hok : ∀ p ∈ m, ok p.1) (hn : (m.map (·.1)).Nodup) :
    SY P ops hp { dst := dst, op := .lookup t x y false, type := ty, pos := ps, after := af, guard := g } fr (dX (((Go.Proofs.YtjbepoofigokjaaGreat.lookM m v).map vv).getD z)) := SY.valE fun {P0 B w0 w a} hh hon => by
  have h1 : a.eval x = _ := hx.get (by simp [Op.operands]) hon
  have h2 := hd.is _ _ _ (hy.get (by simp [Op.operands]) hon)
  refine ⟨_, w, ?_, Ext.refl _, rfl⟩
  unfold execOp
  simp only [h1, h2, Sem.run_bind, run_lookup T H hok hn ho (hh.ok _ hm) false, Result.andThen_ok, Sem.run_pure]
  rfl
theorem SY.lookM2 {x y : Operand} {v : K} (T : MapT P t k e z) (H : KeyT P k kv ok) (hx : OpD fr x (dX (.map (some b)))) (hm : hM b kv vv m ∈ hp) (hy : OpD fr y d) (hd : IsV d (kv v)) (ho : ok v) (hok : ∀ p ∈ m, ok p.1) (hn : (m.map (·.1)).Nodup) :
    SY P ops hp { dst := dst, op := .lookup t x y true, type := ty, pos := ps, after := af, guard := g } fr (dT [dX (((Go.Proofs.YtjbepoofigokjaaGreat.lookM m v).map vv).getD z), dB (Go.Proofs.YtjbepoofigokjaaGreat.lookM m v).isSome]) := SY.valE fun {P0 B w0 w a} hh hon => by
  have h1 : a.eval x = _ := hx.get (by simp [Op.operands]) hon
  have h2 := hd.is _ _ _ (hy.get (by simp [Op.operands]) hon)
  refine ⟨_, w, ?_, Ext.refl _, [((Go.Proofs.YtjbepoofigokjaaGreat.lookM m v).map vv).getD z, .bool (Go.Proofs.YtjbepoofigokjaaGreat.lookM m v).isSome], rfl, rfl, fun i e x he hx => ?_⟩
  · unfold execOp
    simp only [h1, h2, Sem.run_bind, run_lookup T H hok hn ho (hh.ok _ hm) true, Result.andThen_ok, Sem.run_pure]
    rfl
  · match i, he, hx with
    | 0, he, hx => cases he; cases hx; rfl
    | 1, he, hx => cases he; cases hx; rfl
theorem WL.putMap {x y c : Operand} {v : K} {u : V} (T : MapT P t k e z) (H : KeyT P k kv ok) (hx : OpD fr x (dX (.map (some b)))) (hy : OpD fr y d) (hd : IsV d (kv v)) (hc : OpD fr c d2) (hd2 : IsV d2 (vv u)) (ho : ok v) (hok : ∀ p ∈ m, ok p.1) (hn : (m.map (·.1)).Nodup)
    (h : WL P ops Q rest (setD fr dst (dX undef)) (hM b kv vv (putM m v u) :: hp)) :
    WL P ops Q ({ dst := dst, op := .mapUpdate t x y c, type := ty, pos := ps, after := af, guard := none } :: rest) fr (hM b kv vv m :: hp) := by
  refine WL.of fun P0 B w0 w a hh hf => ?_
  have h1 : a.eval x = _ := hx.ev hf
  have h2 := hd.is _ _ _ (hy.ev hf)
  have h3 := hd2.is _ _ _ (hc.ev hf)
  have hrun : (execOp a.eval { dst := dst, op := .mapUpdate t x y c, type := ty, pos := ps, after := af, guard := none }).run P w = .ok .skip (w.putObj b (mapObj (encM kv vv (putM m v u)))) := by
    unfold execOp
    simp only [h1, h2, h3, Sem.run_bind, run_update T H hok hn ho u (hh.ok (hM b kv vv m) (by simp)), Result.andThen_ok, Sem.run_pure]
    rfl
  refine wpList_plain rfl fun K hK => ?_
  unfold Oper.wp
  rw [hrun]
  exact hK _ _ (h.on (Hp.putObj hh) (Fr.put (hf.mono fun _ _ hd => Hp.putObj_rd hd) (d := dX undef) rfl))
end
theorem WL.entM {x y : Operand} {v : K} (zv : V) (hz : vv zv = z) (T : MapT P t k e z) (H : KeyT P k kv ok) (hx : OpD fr x (dX (.map (some b)))) (hy : OpD fr y d) (hd : IsV d (kv v)) (ho : ok v) (hok : ∀ p ∈ m, ok p.1)
    (h1 : ∀ (j : Nat) (hj : j < m.length), m[j].1 = v → WL P ops Q rest (setD fr dst (dT [dX (vv m[j].2), dI j])) (hM b kv vv m :: hp))
    (h2 : (∀ p ∈ m, p.1 ≠ v) → WL P ops Q rest (setD fr dst (dT [dX z, dI m.length])) (hM b kv vv (m ++ [(v, zv)]) :: hp)) :
    WL P ops Q ({ dst := dst, op := .mapEntry t x y, type := ty, pos := ps, after := af, guard := none } :: rest) fr (hM b kv vv m :: hp) := by
  refine WL.of fun P0 B w0 w a hh hf => ?_
  have e1 : a.eval x = _ := hx.ev hf
  have e2 := hd.is _ _ _ (hy.ev hf)
  have hT : ∀ {I : Nat → Prop} {w : World} (u : Value) (n : Int), (dT [dX u, dI n]).rd I w (.tuple #[u, .int .i64 n]) := fun u n => ⟨[u, .int .i64 n], rfl, rfl, fun i e x he hx => by
    match i, he, hx with
    | 0, he, hx => cases he; cases hx; rfl
    | 1, he, hx => cases he; cases hx; rfl⟩
  rcases run_entry T H hok ho (hh.ok (hM b kv vv m) (by simp)) with ⟨j, hj, hjv, hr⟩ | ⟨hne, hr⟩
  · have hrun : (execOp a.eval { dst := dst, op := .mapEntry t x y, type := ty, pos := ps, after := af, guard := none }).run P w = .ok (.value (.tuple #[vv m[j].2, .int .i64 j])) (w.putObj b (mapObj (encM kv vv m))) := by
      unfold execOp
      simp only [e1, e2, Sem.run_bind, hr, Result.andThen_ok, Sem.run_pure]
      rfl
    refine wpList_value rfl hrun ?_
    exact (h1 j hj hjv).on (Hp.putObj hh) (Fr.put (hf.mono fun _ _ hd => Hp.putObj_rd hd) (hT _ _))
  · have hrun : (execOp a.eval { dst := dst, op := .mapEntry t x y, type := ty, pos := ps, after := af, guard := none }).run P w = .ok (.value (.tuple #[z, .int .i64 m.length])) (w.putObj b (mapObj (encM kv vv (m ++ [(v, zv)])))) := by
      unfold execOp
      simp only [e1, e2, Sem.run_bind, hr zv hz, Result.andThen_ok, Sem.run_pure]
      rfl
    refine wpList_value rfl hrun ?_
    exact (h2 hne).on (Hp.putObj hh) (Fr.put (hf.mono fun _ _ hd => Hp.putObj_rd hd) (hT _ _))
theorem WL.entS {x y c : Operand} {j : Nat} {u : V} (hx : OpD fr x (dX (.map (some b)))) (hy : OpD fr y (dI (j : Int))) (hc : OpD fr c d2) (hd2 : IsV d2 (vv u)) (hj : j < m.length)
    (h : WL P ops Q rest (setD fr dst (dX undef)) (hM b kv vv (m.set j (m[j].1, u)) :: hp)) :
    WL P ops Q ({ dst := dst, op := .entryStore t x y c, type := ty, pos := ps, after := af, guard := none } :: rest) fr (hM b kv vv m :: hp) := by
  refine WL.of fun P0 B w0 w a hh hf => ?_
  have h1 : a.eval x = _ := hx.ev hf
  have h2 : a.eval y = .int .i64 j := hy.ev hf
  have h3 := hd2.is _ _ _ (hc.ev hf)
  have hrun : (execOp a.eval { dst := dst, op := .entryStore t x y c, type := ty, pos := ps, after := af, guard := none }).run P w = .ok .skip (w.putObj b (mapObj (encM kv vv (m.set j (m[j].1, u))))) := by
    unfold execOp
    simp only [h1, h2, h3, Sem.run_bind, run_entryStore hj u (hh.ok (hM b kv vv m) (by simp)), Result.andThen_ok, Sem.run_pure]
    rfl
  refine wpList_plain rfl fun K hK => ?_
  unfold Oper.wp
  rw [hrun]
  exact hK _ _ (h.on (Hp.putObj hh) (Fr.put (hf.mono fun _ _ hd => Hp.putObj_rd hd) (d := dX undef) rfl))
theorem SY.lenM {x : Operand} {ats : TypeId} (T : MapT P ats k e z) (hx : OpD fr x (dX (.map (some b)))) (hm : hM b kv vv m ∈ hp) :
    SY P ops hp { dst := dst, op := .call { callee := .builtin .len, args := #[x], argTypes := #[ats] }, type := ty, pos := ps, after := af, guard := g } fr (dI (m.length : Int)) := SY.valE fun {P0 B w0 w a} hh hon => by
  have h1 : a.eval x = _ := hx.get (by simp [Op.operands, Call.operands]) hon
  have hb : w.heap[b]? = some (.map _ _) := hh.ok _ hm
  refine ⟨.int .i64 m.length, w, ?_, Ext.refl _, rfl⟩
  have hr : (Builtin.len_ #[ats] ty #[.map (some b)]).run P w = .ok (.int .i64 m.length) w := by
    simp [Builtin.len_, run_underlying T.under, MapKept.run_getObj_map hb, Result.andThen, goInt, entriesM_len, encM]
  unfold execOp
  simp [resolve, invoke, builtin, h1, hr, Result.andThen]
end
end Go.Proofs.YtjbepoofigokjaaGreat
namespace Go.Proofs.YtjbepoofigokjaaGreat
open Go.RowKit
def MapR {K α : Type} (kv : K → Value) (R : Rel α) : Rel (List (K × α)) := fun P w v m =>
  ∃ (b : Nat) (us : List Value), v = .map (some b) ∧ P b ∧ us.length = m.length ∧ w.heap[b]? = some (mapObj (encM kv id ((m.map (·.1)).zip us))) ∧ ∀ k (h : k < us.length) (h' : k < m.length), R P w us[k] m[k].2
theorem lt_of_heap {w : World} {b : Nat} {o : Obj} (h : w.heap[b]? = some o) : b < w.heap.size := (Array.getElem?_eq_some_iff.1 h).1
instance {K α : Type} (kv : K → Value) (R : Rel α) [Good R] : Good (MapR kv R) where
  weak := fun ⟨b, us, h1, h2, h3, h4, h5⟩ q => ⟨b, us, h1, q b h2, h3, h4, fun k a c => Good.weak (h5 k a c) q⟩
  move := fun ⟨b, us, h1, h2, h3, h4, h5⟩ q => ⟨b, us, h1, h2, h3, (q b h2 (lt_of_heap h4)).trans h4, fun k a c => Good.move (h5 k a c) q⟩
  bound := fun ⟨b, us, h1, h2, h3, h4, h5⟩ => ⟨b, us, h1, ⟨h2, lt_of_heap h4⟩, h3, h4, fun k a c => Good.bound (h5 k a c)⟩
section
variable {P : Program} {ops : Array Oper} {hp : List HObj} {fr : List Dat} {d : Dat}
variable {dst : Option Tmp} {ty : TypeId} {ps : String} {af : Array Edge} {g : Option (Nat × Bool)} {t k e : TypeId} {z : Value} {K α : Type} [DecidableEq K] {kv : K → Value} {ok : K → Prop} {R : Rel α} {m : List (K × α)}
theorem lookM_zip {m : List (K × α)} {us : List Value} (h : us.length = m.length) (x : K) : (lookM m x = none ∧ lookM ((m.map (·.1)).zip us) x = none) ∨ ∃ (j : Nat) (h1 : j < us.length) (h2 : j < m.length), lookM m x = some m[j].2 ∧ lookM ((m.map (·.1)).zip us) x = some us[j] := by
  induction m generalizing us with
  | nil => exact .inl ⟨rfl, by cases us <;> rfl⟩
  | cons p m ih =>
    cases us with
    | nil => simp at h
    | cons u us =>
      by_cases hp : p.1 = x
      · refine .inr ⟨0, by simp, by simp, ?_, ?_⟩
        · unfold lookM; rw [List.find?_cons_of_pos (by simpa using hp)]; rfl
        · unfold lookM; simp only [List.map_cons, List.zip_cons_cons]; rw [List.find?_cons_of_pos (by simpa using hp)]; rfl
      · rcases ih (us := us) (by simpa using h) with ⟨h1, h2⟩ | ⟨j, h1, h2, h3, h4⟩
        · refine .inl ⟨?_, ?_⟩
          · unfold lookM at h1 ⊢; rw [List.find?_cons_of_neg (by simpa using hp)]; exact h1
          · unfold lookM at h2 ⊢; simp only [List.map_cons, List.zip_cons_cons]; rw [List.find?_cons_of_neg (by simpa using hp)]; exact h2
        · refine .inr ⟨j + 1, by simpa using h1, by simpa using h2, ?_, ?_⟩
          · unfold lookM at h3 ⊢; rw [List.find?_cons_of_neg (by simpa using hp)]; exact h3
          · unfold lookM at h4 ⊢; simp only [List.map_cons, List.zip_cons_cons]; rw [List.find?_cons_of_neg (by simpa using hp)]; exact h4
theorem SY.lookR [Good R] {x y : Operand} {v : K} {a0 : α} (T : MapT P t k e z) (H : KeyT P k kv ok) (hx : OpD fr x (dS (MapR kv R) m)) (hy : OpD fr y d) (hd : IsV d (kv v)) (ho : ok v) (hok : ∀ p ∈ m, ok p.1) (hn : (m.map (·.1)).Nodup) (hz : ∀ I w, R I w z a0) :
    SY P ops hp { dst := dst, op := .lookup t x y false, type := ty, pos := ps, after := af, guard := g } fr (dS R ((Go.Proofs.YtjbepoofigokjaaGreat.lookM m v).getD a0)) := SY.val fun {I w a} hon => by
  obtain ⟨b, us, h1, h2, h3, h4, h5⟩ := hx.get (by simp [Op.operands]) hon
  have h6 := hd.is _ _ _ (hy.get (by simp [Op.operands]) hon)
  have hkeys : ((m.map (·.1)).zip us).map (·.1) = m.map (·.1) := by rw [List.map_fst_zip]; simp [h3]
  refine ⟨((Go.Proofs.YtjbepoofigokjaaGreat.lookM ((m.map (·.1)).zip us) v).map id).getD z, ?_, ?_⟩
  · unfold execOp
    simp only [h1, h6, Sem.run_bind, run_lookup (vv := id) T H (fun (p : K × Value) (hp : p ∈ (m.map (·.1)).zip us) => by
      have : p.1 ∈ m.map (·.1) := by rw [← hkeys]; exact List.mem_map_of_mem hp
      obtain ⟨q, hq, he⟩ := List.mem_map.1 this
      rw [← he]; exact hok q hq) (by rw [hkeys]; exact hn) ho h4 false, Result.andThen_ok, Sem.run_pure]
    rfl
  · rcases lookM_zip h3 v with ⟨e1, e2⟩ | ⟨j, j1, j2, e1, e2⟩
    · rw [e1, e2]; exact hz I w
    · rw [e1, e2]; exact h5 j j1 j2
end
theorem FinD.map {hp : List HObj} {b : Nat} {e : TypeId} {K α : Type} {kv : K → Value} {R : Rel α} {_gR : Good R} {M : List (K × Value × List α)} (hm : hM b kv (fun p : Value × List α => p.1) M ∈ hp) (hr : ∀ p ∈ M, hRow p.2.1 e R p.2.2 ∈ hp) :
    FinD hp (dX (.map (some b))) (dS (MapR kv (Arr R)) (M.map fun p => (p.1, p.2.2))) := FinD.mk fun {P0 B w0 w u} hh hd => by
  have hb : w.heap[b]? = some (mapObj _) := hh.ok _ hm
  refine ⟨b, M.map fun p => p.2.1, hd, own_blocks hh hm rfl, by simp, ?_, fun k h1 h2 => ?_⟩
  · rw [hb]
    congr 2
    unfold encM
    simp only [List.map_map]
    rw [List.zip_map', List.map_map]
    rfl
  · have hk : k < M.length := by simpa using h1
    have : Arr R (fun b => P0 b ∨ B ≤ b) w M[k].2.1 M[k].2.2 := (FinD.row (hr _ (List.getElem_mem hk))).out (v := M[k].2.1) hh rfl
    simpa using this
end Go.Proofs.YtjbepoofigokjaaGreat
namespace Go.Proofs.YtjbepoofigokjaaGreat
theorem dropWhile_split (v : Vx) : ∀ b : List Vx, (v ∉ b ∧ (b.dropWhile fun x => decide (x ≠ v)) = []) ∨ ∃ pre c, b = pre ++ v :: c ∧ v ∉ pre ∧ (b.dropWhile fun x => decide (x ≠ v)) = v :: c
  | [] => .inl ⟨by simp, rfl⟩
  | x :: b => by
    by_cases hx : x = v
    · subst hx
      exact .inr ⟨[], b, rfl, by simp, by rw [List.dropWhile_cons_of_neg (by simp)]⟩
    · rw [List.dropWhile_cons_of_pos (by simpa using hx)]
      rcases dropWhile_split v b with ⟨h1, h2⟩ | ⟨pre, c, h1, h2, h3⟩
      · exact .inl ⟨by simp [h1, Ne.symm hx], h2⟩
      · exact .inr ⟨x :: pre, c, by rw [h1]; rfl, by simp [h2, Ne.symm hx], h3⟩
theorem cmpV_irr (v : Vx) : cmpV v v = 0 := cmpV_eq.2 rfl
theorem faceG_inside : ∀ (a b : List Vx), Asc a → Asc b → faceG a b = insideV a b
  | [], b, _, _ => rfl
  | v :: a, b, ha, hb => by
    have ha' := ha
    unfold Asc at ha'
    rw [List.pairwise_cons] at ha'
    unfold faceG
    rcases dropWhile_split v b with ⟨h1, h2⟩ | ⟨pre, c, h1, h2, h3⟩
    · rw [if_pos h2]
      unfold insideV
      simp [h1]
    · rw [h3, if_neg (by simp)]
      have hb' := hb
      unfold Asc at hb'
      rw [h1, List.pairwise_append] at hb'
      rw [faceG_inside a (v :: c) ha'.2 hb'.2.1]
      have hv : v ∈ b := by rw [h1]; simp
      unfold insideV
      rw [List.all_cons, decide_eq_true hv, Bool.true_and, Bool.eq_iff_iff, List.all_eq_true, List.all_eq_true]
      constructor
      · intro h x hx
        have := h x hx
        simp only [decide_eq_true_eq] at this ⊢
        rw [h1]; exact List.mem_append.2 (.inr this)
      · intro h x hx
        have := h x hx
        simp only [decide_eq_true_eq] at this ⊢
        rw [h1] at this
        rcases List.mem_append.1 this with hp | hp
        · have h5 := hb'.2.2 x hp v (by simp)
          have h6 := cmpV_trans h5 (ha'.1 x hx)
          rw [cmpV_irr] at h6; omega
        · exact hp
def addI (m : List (Vx × List Int)) (v : Vx) (i : Int) : List (Vx × List Int) := putM m v ((lookM m v).getD [] ++ [i])
def incS (m : List (Vx × List Int)) (s : List Vx) (i : Int) : List (Vx × List Int) := s.foldl (fun m v => addI m v i) m
def incC (l : Cx) : List (Vx × List Int) := (l.zipIdx).foldl (fun m p => incS m p.1 (p.2 : Int)) []
theorem incS_snoc {m : List (Vx × List Int)} {s : List Vx} {i : Int} {j : Nat} (h : j < s.length) : incS m (s.take (j + 1)) i = addI (incS m (s.take j) i) s[j] i := by
  unfold incS; rw [take_snoc' h, List.foldl_append]; rfl
theorem incC_snoc {l : Cx} {i : Nat} (h : i < l.length) : incC (l.take (i + 1)) = incS (incC (l.take i)) l[i] (i : Int) := by
  unfold incC
  rw [take_snoc' h, List.zipIdx_append, List.foldl_append]
  simp [List.length_take, Nat.min_eq_left (Nat.le_of_lt h)]
def atM (m : List (Vx × List Int)) (v : Vx) : List Int := (lookM m v).getD []
theorem lookM_putM {K V : Type} [DecidableEq K] {m : List (K × V)} {x y : K} {v : V} : lookM (putM m x v) y = if y = x then some v else lookM m y := by
  unfold putM
  by_cases h : (lookM m x).isSome
  · rw [if_pos h]
    induction m with
    | nil => simp [lookM] at h
    | cons p m ih =>
      rw [List.map_cons]
      by_cases hp : p.1 = x
      · rw [if_pos hp]
        by_cases hy : y = x
        · rw [if_pos hy]; unfold lookM
          rw [List.find?_cons_of_pos (by simp [hy])]; rfl
        · rw [if_neg hy]; unfold lookM
          rw [List.find?_cons_of_neg (by simpa using Ne.symm hy), List.find?_cons_of_neg (by rw [hp]; simpa using Ne.symm hy)]
          clear ih h hp
          induction m with
          | nil => rfl
          | cons q m ih =>
            rw [List.map_cons]
            by_cases hq : q.1 = x
            · rw [if_pos hq, List.find?_cons_of_neg (by simpa using Ne.symm hy), List.find?_cons_of_neg (by rw [hq]; simpa using Ne.symm hy)]
              exact ih
            · rw [if_neg hq]
              by_cases hqy : q.1 = y
              · rw [List.find?_cons_of_pos (by simpa using hqy), List.find?_cons_of_pos (by simpa using hqy)]
              · rw [List.find?_cons_of_neg (by simpa using hqy), List.find?_cons_of_neg (by simpa using hqy)]
                exact ih
      · rw [if_neg hp]
        have h' : (lookM m x).isSome := by
          unfold lookM at h ⊢
          rwa [List.find?_cons_of_neg (by simpa using hp)] at h
        have := ih h'
        unfold lookM at this ⊢
        by_cases hpy : p.1 = y
        · have hyx : y ≠ x := fun e => hp (hpy.trans e)
          rw [List.find?_cons_of_pos (by simpa using hpy), if_neg hyx, List.find?_cons_of_pos (by simpa using hpy)]
        · rw [List.find?_cons_of_neg (by simpa using hpy), List.find?_cons_of_neg (by simpa using hpy)]
          exact this
  · rw [if_neg h]
    have h0 : lookM m x = none := by simpa using h
    unfold lookM at h0 ⊢
    rw [List.find?_append]
    by_cases hy : y = x
    · subst hy
      rw [if_pos rfl]
      have : m.find? (fun p => decide (p.1 = y)) = none := by simpa using h0
      rw [this]; simp
    · rw [if_neg hy, List.find?_cons_of_neg (by simpa using Ne.symm hy)]
      simp
theorem atM_addI {m : List (Vx × List Int)} {v u : Vx} {i : Int} : atM (addI m v i) u = if u = v then atM m v ++ [i] else atM m u := by
  unfold atM addI
  rw [lookM_putM]
  split <;> rfl
theorem mem_incS {i j : Int} {v : Vx} : ∀ {s : List Vx} {m : List (Vx × List Int)}, j ∈ atM (incS m s i) v ↔ j ∈ atM m v ∨ (j = i ∧ v ∈ s)
  | [], m => by simp [incS]
  | u :: s, m => by
    show j ∈ atM (incS (addI m u i) s i) v ↔ _
    rw [mem_incS (s := s), atM_addI]
    by_cases hv : v = u
    · subst hv
      rw [if_pos rfl, List.mem_append, List.mem_singleton, List.mem_cons]
      constructor
      · rintro ((h | h) | h)
        · exact .inl h
        · exact .inr ⟨h, .inl rfl⟩
        · exact .inr ⟨h.1, .inr h.2⟩
      · rintro (h | h)
        · exact .inl (.inl h)
        · exact .inl (.inr h.1)
    · rw [if_neg hv, List.mem_cons]; simp [hv]
theorem mem_incC_take {l : Cx} {j : Int} {v : Vx} : ∀ {n : Nat}, n ≤ l.length → (j ∈ atM (incC (l.take n)) v ↔ ∃ (k : Nat) (h : k < l.length), k < n ∧ j = k ∧ v ∈ l[k])
  | 0, _ => by simp [incC, atM, lookM]
  | n + 1, hn => by
    rw [incC_snoc (by omega), mem_incS, mem_incC_take (by omega)]
    constructor
    · rintro (⟨k, h, h1, h2, h3⟩ | ⟨h1, h2⟩)
      · exact ⟨k, h, by omega, h2, h3⟩
      · exact ⟨n, by omega, by omega, h1, h2⟩
    · rintro ⟨k, h, h1, h2, h3⟩
      by_cases hk : k = n
      · subst hk; exact .inr ⟨h2, h3⟩
      · exact .inl ⟨k, h, by omega, h2, h3⟩
theorem mem_incC {l : Cx} {j : Int} {v : Vx} : j ∈ atM (incC l) v ↔ ∃ (k : Nat) (h : k < l.length), j = k ∧ v ∈ l[k] := by
  have := mem_incC_take (l := l) (j := j) (v := v) (Nat.le_refl _)
  rw [List.take_length] at this
  rw [this]
  exact ⟨fun ⟨k, h, _, h2, h3⟩ => ⟨k, h, h2, h3⟩, fun ⟨k, h, h2, h3⟩ => ⟨k, h, h, h2, h3⟩⟩
theorem atM_bnd {l : Cx} {v : Vx} : ∀ i ∈ atM (incC l) v, 0 ≤ i ∧ i < l.length := fun i hi => by
  obtain ⟨k, h, rfl, _⟩ := mem_incC.1 hi
  omega
theorem anyCov {l : Cx} (h : ∀ s ∈ l, chkV s = 0) {s : List Vx} (hs : chkV s = 0) {v : Vx} (hv : v ∈ s) : (atM (incC l) v).any (covI l s) = coveredC l s := by
  have asc : ∀ s ∈ l, Asc s := fun s hs => (chkV_zero.1 (h s hs)).2.2.2
  rw [Bool.eq_iff_iff, List.any_eq_true, coveredC_iff]
  constructor
  · rintro ⟨i, hi, hc⟩
    obtain ⟨k, hk, rfl, _⟩ := mem_incC.1 hi
    have hm := List.getElem_mem hk
    unfold covI at hc
    rw [Int.toNat_natCast, show l.getD k [] = l[k] by simp [List.getD, hk], Bool.and_eq_true, decide_eq_true_eq, faceG_inside _ _ (chkV_zero.1 hs).2.2.2 (asc _ hm)] at hc
    exact ⟨l[k], hm, hc.1, hc.2⟩
  · rintro ⟨x, hx, h1, h2⟩
    obtain ⟨k, hk, rfl⟩ := List.getElem_of_mem hx
    refine ⟨(k : Int), mem_incC.2 ⟨k, hk, rfl, ?_⟩, ?_⟩
    · unfold insideV at h2
      have := List.all_eq_true.1 h2 v hv
      simpa using this
    · unfold covI
      rw [Int.toNat_natCast, show l.getD k [] = l[k] by simp [List.getD, hk], Bool.and_eq_true, decide_eq_true_eq, faceG_inside _ _ (chkV_zero.1 hs).2.2.2 (asc _ hx)]
      exact ⟨h1, h2⟩
end Go.Proofs.YtjbepoofigokjaaGreat
namespace Go.Proofs.YtjbepoofigokjaaGreat
open Go.RowKit
set_option maxRecDepth 100000
theorem laidK : laidOutB Tryz.prog = true := by kernel_rfl
def is64 (n : Int) : Prop := -9223372036854775808 ≤ n ∧ n ≤ 9223372036854775807
theorem wf64 {n : Int} (h : is64 n) : (Lit.int .i64 n).wf = true := by
  obtain ⟨h1, h2⟩ := h
  show (decide (IntKind.i64.min ≤ n) && decide (n ≤ IntKind.i64.max)) = true
  have e1 : IntKind.i64.min = -9223372036854775808 := by decide
  have e2 : IntKind.i64.max = 9223372036854775807 := by decide
  rw [e1, e2, decide_eq_true h1, decide_eq_true h2]; rfl
def kvV (x : Int × Int) : Value := .agg #[.int .i64 x.1, .int .i64 x.2]
def okV (x : Int × Int) : Prop := is64 x.1 ∧ is64 x.2
theorem rowV' : 63 < Tryz.prog.types.size := of_decide_eq_true (by kernel_rfl)
theorem cellsV' : Tryz.prog.cellsOf 63 = 2 := by kernel_rfl
theorem cellsI' : Tryz.prog.cellsOf 3 = 1 := by kernel_rfl
theorem lits_V (d : Nat) {x : Int × Int} (h : okV x) : Tryz.prog.keyLits (d + 2) 63 [.int .i64 x.1, .int .i64 x.2] = some [.int .i64 x.1, .int .i64 x.2] := by
  obtain ⟨h1, h2⟩ := h
  unfold Program.keyLits
  simp only [Tryz.underlying63, cellsV']
  simp [cellsI', Program.keyLits, Tryz.underlying3, wf64 h1, wf64 h2]
theorem keyT_V : KeyT Tryz.prog 63 kvV okV where
  law := Go.Maps.Keyed.of_law (deep_law_laid laidK (m := 2) (by omega) rowV' (by kernel_rfl) (by rw [Tryz.underlying63]))
  lit := fun x h => by
    refine ⟨.string (keyBytes [.int .i64 x.1, .int .i64 x.2]), ?_⟩
    unfold keyOf
    simp only [Tryz.underlying63]
    have hk : Tryz.prog.keyType 63 = true := by kernel_rfl
    have hf : (kvV x).formed Tryz.prog 63 = true := by simp [kvV, Value.formed, Tryz.underlying63, cellsV']
    obtain ⟨d, hd⟩ : ∃ d, Tryz.prog.types.size = d + 1 := ⟨Tryz.prog.types.size - 1, by have := rowV'; omega⟩
    rw [hk, hf, hd]
    have := lits_V d h
    simp only [Bool.and_self, if_true]
    rw [show (kvV x).cells.toList = [.int .i64 x.1, .int .i64 x.2] from rfl, this]
    rfl
  inj := fun x y _ _ h => by
    unfold kvV at h
    simp at h
    exact Prod.ext h.1 h.2
def padK (s : List Vx) : List Vx := s ++ List.replicate (8 - s.length) (-1, 0)
def kvK (s : List Vx) : Value := .agg (flatV (padK s)).toArray
def okK (s : List Vx) : Prop := s.length ≤ 8 ∧ ∀ v ∈ s, okV v ∧ 0 ≤ v.1
theorem rowK' : 146 < Tryz.prog.types.size := of_decide_eq_true (by kernel_rfl)
theorem cellsK' : Tryz.prog.cellsOf 146 = 16 := by kernel_rfl
theorem padK_len {s : List Vx} (h : s.length ≤ 8) : (padK s).length = 8 := by unfold padK; simp; omega
theorem padK_ok {s : List Vx} (h : okK s) : ∀ v ∈ padK s, okV v := fun v hv => by
  unfold padK at hv
  rcases List.mem_append.1 hv with hv | hv
  · exact (h.2 v hv).1
  · rw [(List.mem_replicate.1 hv).2]; exact ⟨by unfold is64; omega, by unfold is64; omega⟩
theorem mapM_all {α β : Type} {f : α → Option β} {g : α → β} : ∀ (L : List α), (∀ i ∈ L, f i = some (g i)) → L.mapM f = some (L.map g)
  | [], _ => rfl
  | a :: L, h => by
    rw [List.mapM_cons, h a (by simp), mapM_all L fun i hi => h i (by simp [hi])]
    rfl
theorem flatV_at : ∀ (l : List Vx) (i : Nat) (h : i < l.length), ((flatV l).drop (i * 2)).take 2 = [.int .i64 l[i].1, .int .i64 l[i].2]
  | [], i, h => by simp at h
  | x :: l, 0, _ => by simp [flatV_cons]
  | x :: l, i + 1, h => by
    rw [flatV_cons, show (i + 1) * 2 = i * 2 + 2 by omega]
    simpa using flatV_at l i (by simpa using h)
theorem lits_K (d : Nat) {s : List Vx} (h : okK s) : ∃ l, Tryz.prog.keyLits (d + 3) 146 (flatV (padK s)) = some l := by
  have hl : (flatV (padK s)).length = 16 := by rw [flatV_len, padK_len h.1]
  unfold Program.keyLits
  simp only [Tryz.underlying146, cellsK', hl]
  simp only [if_true, cellsV']
  rw [mapM_all (g := fun i => [Lit.int .i64 ((padK s).getD i (0, 0)).1, Lit.int .i64 ((padK s).getD i (0, 0)).2]) _ fun i hi => ?_]
  · exact ⟨_, rfl⟩
  · have hi' : i < (padK s).length := by rw [padK_len h.1]; exact List.mem_range.1 hi
    rw [flatV_at _ i hi', lits_V d (padK_ok h _ (List.getElem_mem hi'))]
    simp [List.getD, hi']
theorem flatV_inj : ∀ {a b : List Vx}, flatV a = flatV b → a = b
  | [], [], _ => rfl
  | [], y :: b, h => by simp [flatV_cons, flatV_nil] at h
  | x :: a, [], h => by simp [flatV_cons, flatV_nil] at h
  | x :: a, y :: b, h => by
    rw [flatV_cons, flatV_cons] at h
    simp at h
    rw [Prod.ext h.1 h.2.1, flatV_inj h.2.2]
theorem padK_inj : ∀ {a b : List Vx}, (∀ v ∈ a, 0 ≤ v.1) → (∀ v ∈ b, 0 ≤ v.1) → padK a = padK b → a = b := by
  have go : ∀ {a b : List Vx} (i j : Nat), (∀ v ∈ a, 0 ≤ v.1) → (∀ v ∈ b, 0 ≤ v.1) → a ++ List.replicate i ((-1, 0) : Vx) = b ++ List.replicate j (-1, 0) → a = b := by
    intro a
    induction a with
    | nil =>
      intro b i j _ hb h
      cases b with
      | nil => rfl
      | cons y b =>
        cases i with
        | zero => simp at h
        | succ i =>
          rw [List.replicate_succ] at h
          simp at h
          have := hb y (by simp)
          rw [← h.1] at this
          simp at this
    | cons x a ih =>
      intro b i j ha hb h
      cases b with
      | nil =>
        cases j with
        | zero => simp at h
        | succ j =>
          rw [List.replicate_succ] at h
          simp at h
          have := ha x (by simp)
          rw [h.1] at this
          simp at this
      | cons y b =>
        simp only [List.cons_append, List.cons.injEq] at h
        rw [h.1, ih i j (fun v hv => ha v (by simp [hv])) (fun v hv => hb v (by simp [hv])) h.2]
  intro a b ha hb h
  exact go _ _ ha hb h
theorem keyT_K : KeyT Tryz.prog 146 kvK okK where
  law := Go.Maps.Keyed.of_law (deep_law_laid laidK (m := 3) (by omega) rowK' (by kernel_rfl) (by rw [Tryz.underlying146]))
  lit := fun s h => by
    obtain ⟨d, hd⟩ : ∃ d, Tryz.prog.types.size = d + 2 := ⟨Tryz.prog.types.size - 2, by have := rowK'; omega⟩
    obtain ⟨l, hl⟩ := lits_K d h
    refine ⟨.string (keyBytes l), ?_⟩
    unfold keyOf
    simp only [Tryz.underlying146]
    have hk : Tryz.prog.keyType 146 = true := by kernel_rfl
    have hf : (kvK s).formed Tryz.prog 146 = true := by
      simp [kvK, Value.formed, Tryz.underlying146, cellsK', flatV_len, padK_len h.1]
    rw [hk, hf, hd]
    simp only [Bool.and_self, if_true]
    rw [show (kvK s).cells.toList = flatV (padK s) from rfl, hl]
    rfl
  inj := fun x y hx hy h => by
    unfold kvK at h
    injection h with h
    exact padK_inj (fun v hv => (hx.2 v hv).2) (fun v hv => (hy.2 v hv).2) (flatV_inj (List.toArray_inj h))
end Go.Proofs.YtjbepoofigokjaaGreat
