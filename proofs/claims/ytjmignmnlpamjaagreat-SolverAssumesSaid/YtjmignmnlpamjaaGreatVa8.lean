/- Part 8: walks by contracts, and plain laws. -/
import Derived.Test.YtjmignmnlpamjaaGreatVa7
set_option linter.unusedVariables false
set_option linter.unusedSimpArgs false
set_option linter.unusedSectionVars false
set_option maxRecDepth 100000
set_option maxHeartbeats 4000000
namespace Go.Proofs.YtjmignmnlpamjaaGreat
section
open Go.RowKit
def ZBx (b : Nat) (T : TypeId) (ds : List Dat) : HObj where
 blk := some b
 ok := fun P w => ∃ cs : List Value, w.heap[b]? = some (.cells cs.toArray T) /\ cs.length = ds.length /\ (∀ c ∈ cs, c.oneCell' = true) /\ ∀ (k : Nat) (c : Value) (d : Dat), cs[k]? = some c -> ds[k]? = some d -> d.rd P w c
 weak := fun h q => by obtain ⟨cs, h1, h2, h3, h4⟩ := h; exact ⟨cs, h1, h2, h3, fun k c d hc hd => d.weak (h4 k c d hc hd) q⟩
 bound := fun h => by obtain ⟨cs, h1, h2, h3, h4⟩ := h; exact ⟨cs, h1, h2, h3, fun k c d hc hd => d.bound (h4 k c d hc hd)⟩
 move := fun h hg hP hne => by
  obtain ⟨cs, h1, h2, h3, h4⟩ := h
  have hlt : b < _ := (Array.getElem?_eq_some_iff.1 h1).1
  refine ⟨cs, (hg.block b hlt ?_).trans h1, h2, h3, fun k c d hc hd => d.grown (h4 k c d hc hd) hg hP⟩
  rcases hne with h | h
  ·cases h
  ·exact h
def ZMX (ds : List Dat) : Dat where
 rd := fun P w v => ∃ cs : List Value, v = .agg cs.toArray /\ cs.length = ds.length /\ (∀ c ∈ cs, c.oneCell' = true) /\ ∀ (k : Nat) (c : Value) (d : Dat), cs[k]? = some c -> ds[k]? = some d -> d.rd P w c
 weak := fun ⟨cs, h1, h2, h3, h4⟩ q => ⟨cs, h1, h2, h3, fun k c d hc hd => d.weak (h4 k c d hc hd) q⟩
 move := fun ⟨cs, h1, h2, h3, h4⟩ q => ⟨cs, h1, h2, h3, fun k c d hc hd => d.move (h4 k c d hc hd) q⟩
 bound := fun ⟨cs, h1, h2, h3, h4⟩ => ⟨cs, h1, h2, h3, fun k c d hc hd => d.bound (h4 k c d hc hd)⟩
theorem ZCM {ds : List Dat} {n : Nat} (hn : 0 < n) (hl : ds.length = n) : (ZMX ds).Shape n true := fun _ _ _ h => by
 obtain ⟨cs, rfl, h2, h3, _⟩ := h
 exact ⟨cs, by omega, by omega, h3, rfl, rfl⟩
structure StrT (P : Program) (T : TypeId) (n : Nat) : Prop where
 fld : ∀ b off i w, i < n -> (Instr.fieldAt T (.pointer (some ⟨b, off, none⟩)) i).run P w = .ok (.pointer (some ⟨b, off + i, none⟩)) w
section
variable {P : Program} {ops : Array Oper} {hp : List HObj} {fr : List Dat} {d : Dat} {Q : ZAb} {rest : List Oper}
variable {dst : Option Tmp} {ty : TypeId} {ps : String} {af : Array Edge} {g : Option (Nat × Bool)} {T T1 T2 : TypeId} {b off k n : Nat} {ds ds' : List Dat}
theorem ZM {x : Operand} {i : Nat} (S : StrT P T n) (hx : OpD fr x (dX (.pointer (some ⟨b, off, none⟩)))) (hi : i < n) :
  SY P ops hp ⟨dst, .fieldAddr T x i, ty, ps, af, g⟩ fr (dX (.pointer (some ⟨b, off + i, none⟩))) := SY.val fun {I w a} ho => by
 have h1 : a.eval x = _ := hx.get (by simp [Op.operands]) ho
 refine ⟨_, ?_, rfl⟩
 unfold execOp
 simp only [h1, Sem.run_bind, S.fld b off i w hi, Result.andThen_ok, Sem.run_pure]
theorem ZML {I : Nat -> Prop} {w : World} (h : (ZBx b T2 ds).ok I w) (hk : ds[k]? = some d) : ∃ c, w.cell? ⟨b, k, none⟩ = some c /\ c.oneCell' = true /\ d.rd I w c := by
 obtain ⟨cs, c1, c2, c3, c4⟩ := h
 have hlt := (List.getElem?_eq_some_iff.1 hk).1
 have hl : k < cs.length := by omega
 exact ⟨cs[k], by simp [World.cell?, c1, hl], c3 _ (List.getElem_mem hl), c4 k _ d (List.getElem?_eq_getElem hl) hk⟩
theorem ZI {x : Operand} (T' : TyI P T1 1 false) (hx : OpD fr x (dX (.pointer (some ⟨b, k, none⟩)))) (hm : ZBx b T2 ds ∈ hp) (hk : ds[k]? = some d) :
  SY P ops hp ⟨dst, .load T1 x, ty, ps, af, g⟩ fr d := ZAm fun {P0 B w0 w a} hh ho => by
 have h1 : a.eval x = .pointer (some ⟨b, k, none⟩) := hx.get (by simp [Op.operands]) ho
 obtain ⟨c, q1, q2, q3⟩ := ZML (hh.ok _ hm) hk
 have hc : Cells (fun _ => True) w b k 1 false c := by
  refine ⟨trivial, [c], rfl, by decide, by simp [q2], fun i c' hc => ?_, rfl⟩
  have hi : i = 0 := by
   have := (List.getElem?_eq_some_iff.1 hc).1
   simp at this; exact this
  subst hi
  cases hc
  exact q1
 refine ⟨c, w, ?_, Ext.refl _, q3⟩
 unfold execOp
 simp only [h1, Sem.run_bind, ZCK T' hc, Result.andThen_ok, Sem.run_pure]
theorem ZJt {t : Nat} {x : Operand} (T' : TyI P T1 n true) (hp0 : OpD fr (.tmp t) (dX (.pointer (some ⟨b, 0, none⟩)))) (hx : OpD fr x (ZMX ds')) (hl : ds.length = n) (hl' : ds'.length = n)
  (h : WL P ops Q rest (ZB fr dst (dX undef)) (ZBx b T2 ds' :: hp)) :
  WL P ops Q (⟨dst, .store T1 (.tmp t) x, ty, ps, af, none⟩ :: rest) fr (ZBx b T2 ds :: hp) := by
 refine WL.of fun P0 B w0 w a hh hf => ?_
 obtain ⟨cs, c1, c2, c3, c4⟩ := hh.ok (ZBx b T2 ds) (by simp)
 have h1 : a.eval (.tmp t) = _ := hp0.ev hf
 obtain ⟨us, u1, u2, u3, u4⟩ := (hx.ev hf : (ZMX ds').rd (Imm P0 B (ZBx b T2 ds :: hp)) w (a.eval x))
 have hr := ZDt (u := a.eval x) (cs := cs) (cs' := us) T'.size c1 (by omega) (by omega) u3 (by rw [u1]; rfl)
 have hrun : (execOp a.eval ⟨dst, .store T1 (.tmp t) x, ty, ps, af, none⟩).run P w = .ok .skip (w.setRow b us.toArray) := by
  unfold execOp
  simp only [h1, Sem.run_bind, hr, Result.andThen_ok, Sem.run_pure]
 refine wpList_plain rfl fun K hK => ?_
 unfold Oper.wp
 rw [hrun]
 have hgr : w.grownBy (w.setRow b us.toArray) (ZBx b T2 ds).blk := ZBV
 have hok : (ZBx b T2 ds').ok (fun j => Imm P0 B (ZBx b T2 ds :: hp) j /\ j < w.heap.size) (w.setRow b us.toArray) :=
  ⟨us, setRow_heap w b _ _ _ _ c1, u2, u3, fun j c e hc he => e.grown (e.bound (u4 j c e hc he)) hgr fun j q hj => hj.1.2 (ZBx b T2 ds) (by simp) q⟩
 exact hK _ _ (h.on (hh.write hgr (.inl rfl) hok) (Fr.put (hf.mono fun _ _ hd => Z9 (o' := ZBx b T2 ds') hgr (.inl rfl) hd) (d := dX undef) rfl))
theorem WC.freezeS {c : Code} {t : Nat} (hp0 : fr[t]? = some (dX (.pointer (some ⟨b, 0, none⟩)))) (hn : 0 < n) (hl : ds.length = n) (h : WC P Q c (fr.set t (dP n true (ZMX ds))) hp) : WC P Q c fr (ZBx b T ds :: hp) := by
 refine WC.of fun P0 B w0 w a hh hf => ?_
 obtain ⟨cs, c1, c2, c3, c4⟩ := hh.ok (ZBx b T ds) (by simp)
 have hown := hh.own (ZBx b T ds) (by simp) b rfl
 refine h.on hh.drop ⟨hf.defers, by rw [hf.size, List.length_set], fun t' d' hd' => ?_⟩
 by_cases htt : t = t'
 ·subst htt
  rw [List.getElem?_set] at hd'
  simp only [if_true] at hd'
  split at hd'
  ·cases hd'
   have hv : a.tmps.getD t undef = .pointer (some ⟨b, 0, none⟩) := hf.rd t _ hp0
   rw [hv]
   refine ⟨b, 0, .agg cs.toArray, rfl, ⟨⟨.inr hown.1, fun o' ho' hk => (List.pairwise_cons.1 hh.apart).1 o' ho' b rfl hk⟩, cs, by omega, hn, c3, fun j c hc => ?_, rfl⟩, cs, rfl, c2, c3, fun k c d hc hd => d.weak (c4 k c d hc hd) Imm.sub⟩
   simp [World.cell?, c1, hc]
  ·cases hd'
 ·rw [List.getElem?_set_ne htt] at hd'
  exact d'.weak (hf.rd t' d' hd') Imm.sub
end
def R3 {α β γ : Type} (R : Rel α) (S : Rel β) (T : Rel γ) : Rel (α × β × γ) := fun P w v x => ∃ u u' u'', v = .agg #[u, u', u''] /\ (u.oneCell' = true /\ u'.oneCell' = true /\ u''.oneCell' = true) /\ R P w u x.1 /\ S P w u' x.2.1 /\ T P w u'' x.2.2
instance {α β γ : Type} (R : Rel α) (S : Rel β) (T : Rel γ) [Good R] [Good S] [Good T] : Good (R3 R S T) where
 weak := fun ⟨u, u', u'', h1, h0, h2, h3, h4⟩ q => ⟨u, u', u'', h1, h0, Good.weak h2 q, Good.weak h3 q, Good.weak h4 q⟩
 move := fun ⟨u, u', u'', h1, h0, h2, h3, h4⟩ q => ⟨u, u', u'', h1, h0, Good.move h2 q, Good.move h3 q, Good.move h4 q⟩
 bound := fun ⟨u, u', u'', h1, h0, h2, h3, h4⟩ => ⟨u, u', u'', h1, h0, Good.bound h2, Good.bound h3, Good.bound h4⟩
end
section
open Go.RowKit
def MapR {K α : Type} (kv : K -> Value) (R : Rel α) : Rel (List (K × α)) := fun P w v m =>
 ∃ (b : Nat) (us : List Value), v = .map (some b) /\ P b /\ us.length = m.length /\ w.heap[b]? = some (ZEA (encM kv id ((m.map (·.1)).zip us))) /\ ∀ k (h : k < us.length) (h' : k < m.length), R P w us[k] m[k].2
theorem ZFY {w : World} {b : Nat} {o : Obj} (h : w.heap[b]? = some o) : b < w.heap.size := (Array.getElem?_eq_some_iff.1 h).1
instance {K α : Type} (kv : K -> Value) (R : Rel α) [Good R] : Good (MapR kv R) where
 weak := fun ⟨b, us, h1, h2, h3, h4, h5⟩ q => ⟨b, us, h1, q b h2, h3, h4, fun k a c => Good.weak (h5 k a c) q⟩
 move := fun ⟨b, us, h1, h2, h3, h4, h5⟩ q => ⟨b, us, h1, h2, h3, (q b h2 (ZFY h4)).trans h4, fun k a c => Good.move (h5 k a c) q⟩
 bound := fun ⟨b, us, h1, h2, h3, h4, h5⟩ => ⟨b, us, h1, ⟨h2, ZFY h4⟩, h3, h4, fun k a c => Good.bound (h5 k a c)⟩
theorem FinD.map {hp : List HObj} {b : Nat} {e : TypeId} {K α : Type} {kv : K -> Value} {R : Rel α} {_gR : Good R} {M : List (K × Value × List α)} (hm : hM b kv (fun p : Value × List α => p.1) M ∈ hp) (hr : ∀ p ∈ M, ZS p.2.1 e R p.2.2 ∈ hp) :
  FinD hp (dX (.map (some b))) (dS (MapR kv (Arr R)) (M.map fun p => (p.1, p.2.2))) := FinD.mk fun {P0 B w0 w u} hh hd => by
 have hb : w.heap[b]? = some (ZEA _) := hh.ok _ hm
 refine ⟨b, M.map fun p => p.2.1, hd, ZDp hh hm rfl, by simp, ?_, fun k h1 h2 => ?_⟩
 ·rw [hb]
  congr 2
  unfold encM
  simp only [List.map_map]
  rw [List.zip_map', List.map_map]
  rfl
 ·have hk : k < M.length := by simpa using h1
  have : Arr R (fun b => P0 b \/ B ≤ b) w M[k].2.1 M[k].2.2 := (FinD.row (hr _ (List.getElem_mem hk))).out (v := M[k].2.1) hh rfl
  simpa using this
end
section
open Go.RowKit
section
variable {P : Program} {ops : Array Oper} {hp : List HObj} {fr : List Dat} {Q : ZAb} {rest : List Oper} {c : Code} {d : Dat} {α : Type} {R : Rel α} {e : TypeId}
theorem ZNu {_gR : Good R} {v : Value} {xs : List α} (h : WC P Q c fr (ZC9 v (dS (Arr R) xs) :: hp)) : WC P Q c fr (ZS v e R xs :: hp) := WC.of fun P0 B w0 w a hh hf => by
 have hg : (ZC9 v (dS (Arr R) xs)).blk = none := rfl
 have hd : (dS (Arr R) xs).rd (Imm P0 B hp) w v := ZBv hh
 exact h.on (ZEK (l := []) hg hh.drop hd) (hf.mono fun d u hd => d.weak hd fun k hk => (ZAo hg [] k).2 (Imm.sub k hk))
structure CapH (hp : List HObj) (v : Value) (d : Dat) : Prop where
 out : ∀ {P0 : Nat -> Prop} {B : Nat} {w0 w : World}, Hp P0 B w0 hp w -> d.rd ZEZ w v
theorem CapH.map {K V : Type} {kv : K -> Value} {vv : V -> Value} {R : Rel V} [Good R] {M : List (K × V)} {b m : Nat} {T : TypeId} (h1 : ZAB b T 1 false (dX (.map (some m))) ∈ hp) (h2 : hM m kv vv M ∈ hp) (hvv : ∀ I w (y : V), R I w (vv y) y) :
  CapH hp (.pointer (some ⟨b, 0, none⟩)) (dP 1 false (dS (MapR kv R) M)) := CapH.mk fun {P0 B w0 w} hh => by
 obtain ⟨cs, u, c1, c2, c0, c3, c4, c5⟩ := hh.ok _ h1
 have hu : u = .map (some m) := c5
 have hb : w.heap[m]? = some (ZEA _) := hh.ok _ h2
 refine ⟨b, 0, u, rfl, ZBS c1 c2 c0 c3 c4 trivial, m, M.map fun p => vv p.2, hu, trivial, by simp, ?_, fun k q1 q2 => ?_⟩
 ·rw [hb]
  congr 2
  unfold encM
  rw [List.zip_map', List.map_map]
  rfl
 ·simp only [List.getElem_map]
  exact hvv _ _ _
end
end
section
open Go.RowKit
section
variable {P : Program} {ops : Array Oper} {hp : List HObj} {fr : List Dat} {dst : Option Tmp} {ty : TypeId} {ps : String} {af : Array Edge} {t e : TypeId} {z : Value} {bytes : Nat} {ag : Bool}
theorem SW.app1 {s y : Operand} (E : ElT P t e 1 z bytes ag) {α : Type} {R : Rel α} {_gR : Good R} {v : Value} {xs ys : List α} (hs : OpD fr s (dX v)) (hy : OpD fr y (dS (Arr R) ys)) (hby : 0 < bytes)
  (hlen : (xs.length + ys.length) * bytes ≤ 140737488355328) :
  SW P ops (ZS v e R xs :: hp) (fun v' : Value => ZS v' e R (xs ++ ys) :: hp) (fun v' => dX v') ⟨dst, .call { callee := .builtin .append, args := #[s, y], argTypes := #[t, t] }, ty, ps, af, none⟩ fr := ⟨rfl, fun {P0 B w0 w a} hh ho K Q hk => by
 obtain ⟨ad, cap, hv, c1, c2, c3⟩ := (hy.get (by simp [Op.operands, Call.operands]) ho : Arr R _ _ _ _)
 have hm : xs.length + ys.length ≤ maxLen := by
  have : (xs.length + ys.length) * 1 ≤ (xs.length + ys.length) * bytes := Nat.mul_le_mul_left _ hby
  simp only [maxLen]; omega
 have hse : a.eval s = v := hs.get (by simp [Op.operands, Call.operands]) ho
 cases ad with
 | none =>
  have hy0 : ys = [] := by
   cases ys with
   | nil => rfl
   | cons y ys => obtain ⟨_, _, _, _, _, hc, _⟩ := c3 0 (by simp); cases hc
  subst hy0
  obtain ⟨us, _, hown, _⟩ := hh.ok (ZS v e R xs) (by simp)
  have hrun : (execOp a.eval ⟨dst, .call { callee := .builtin .append, args := #[s, y], argTypes := #[t, t] }, ty, ps, af, none⟩).run P w = .ok (.value v) w := by
   have hr := ZCm (P := P) (ty := ty) (w := w) E hown cap
   have hv' : a.eval y = .slice none 0 cap := hv
   unfold execOp
   simp only [resolve, invoke, builtin, List.map_toArray, List.map_cons, List.map_nil, hse, hv', Sem.run_bind, Sem.run_pure, Result.andThen_ok]
   rw [hr]
   simp
  unfold Oper.wp
  rw [hrun]
  have := hk v v w
  simp only [List.append_nil] at this
  exact this hh (fun _ _ h => h) rfl
 | some ad =>
  have hch : ∀ k : Nat, ∃ u : Value, ∀ h : k < ys.length, w.cell? (ad.add k) = some u /\ u.oneCell' = true /\ R (Imm P0 B (ZS v e R xs :: hp)) w u ys[k] := fun k => by
   by_cases hk : k < ys.length
   ·obtain ⟨u, b, off, r1, r2, r3, r4, r5⟩ := c3 k hk
    cases r3
    exact ⟨u, fun _ => ⟨by rw [Addr.add_lit]; exact r5, r2, r1⟩⟩
   ·exact ⟨undef, fun h => absurd h hk⟩
  obtain ⟨f, hfch⟩ := Classical.axiomOfChoice hch
  obtain ⟨v', w', hr, r1, r2, r3⟩ := ZEa (ty := ty) E hh (ad := ad) (c := cap) (ys := ys) (news := (List.range ys.length).map f) (by simp) (fun j u hu => by
    obtain ⟨hjl, hju⟩ := List.getElem?_eq_some_iff.1 hu
    simp at hjl hju
    subst hju
    exact (hfch j hjl).1) (fun u hu => by
    simp only [List.mem_map, List.mem_range] at hu
    obtain ⟨j, hj, rfl⟩ := hu
    exact (hfch j hj).2.1) (fun k h1 h2 => by
    simp only [List.getElem_map, List.getElem_range]
    exact (hfch k h2).2.2) hlen hm
  have hrun : (execOp a.eval ⟨dst, .call { callee := .builtin .append, args := #[s, y], argTypes := #[t, t] }, ty, ps, af, none⟩).run P w = .ok (.value v') w' := by
   unfold execOp
   simp only [resolve, invoke, builtin, List.map_toArray, List.map_cons, List.map_nil, hse, hv, Sem.run_bind, Sem.run_pure, Result.andThen_ok, hr]
  unfold Oper.wp
  rw [hrun]
  exact hk v' v' w' r1 (fun d u hd => Z9 (o := ZS v e R xs) (o' := ZS v' e R (xs ++ ys)) r2 r3 hd) rfl⟩
end
end
section
open Go.RowKit
theorem ZMS {P : Program} {o : Oper} {a : Act} {w : World} {K K' : Act -> World -> Prop} {Q Q' : Exit -> Act -> World -> Prop} (h : ∀ a w, K a w -> K' a w) (hq : ∀ e a w, e ≠ .normal -> Q e a w -> Q' e a w)
  (hh : o.wp P a w K Q) : o.wp P a w K' Q' := by
 have hl : LetsOut Q -> LetsOut Q' := fun ⟨a, w, x⟩ => ⟨a, w, hq _ _ _ (by simp) x⟩
 unfold Oper.wp at *
 generalize (execOp a.eval o).run P w = r at *
 cases r with
 | ok n w' =>
  cases n <;> simp only [Oper.upon] at hh ⊢ <;>
   first
    | exact h _ _ hh
    | exact Calls.mono hh (fun e w'' he => by cases e <;> first | exact h _ _ he | exact hq _ _ _ (by simp) he | exact hl he)
    | exact Rows.mono hh (fun _ _ he => h _ _ he)
 | halt x w' => cases x <;> simp only [Oper.upon] at hh ⊢ <;> first | exact hh | exact hq _ _ _ (by simp) hh
structure WA (P : Program) (ops : Array Oper) (Q : ZAb) (g : Nat) (S : List Bool) (fr : List Dat) (hp : List HObj) : Prop where
 of ::
 out : ∀ (P0 : Nat -> Prop) (B : Nat) (w0 w : World) (a : Act), Hp P0 B w0 hp w -> Fr (Imm P0 B hp) w a fr -> wpAny P .any ops (ZDV Q P0 B w0) g S.toArray a w
def ThenA (P : Program) (ops : Array Oper) (Q : ZAb) (g : Nat) (S : List Bool) : ZAb := fun e f p => match e with | .normal => WA P ops Q g S f p | e => Q e f p
section
variable {P : Program} {ops : Array Oper} {hp : List HObj} {fr : List Dat} {Q : ZAb} {g : Nat} {S : List Bool}
theorem WA.id (h : WA P ops Q g S fr hp) : WA P ops Q g S fr hp := h
theorem WA.nil (hr : Region.ready .any ops S.toArray = []) (h : Q .normal fr hp) : WA P ops Q 0 S fr hp := WA.of fun _ _ _ _ _ hh hf => ⟨hr, fr, hp, h, hh, hf⟩
theorem WA.step {i : Nat} {o : Oper} (ho : ops[i]? = some o) (h : WL P ops (ThenA P ops Q g (S.set i true)) [o] fr hp) {P0 : Nat -> Prop} {B : Nat} {w0 w : World} {a : Act} (hh : Hp P0 B w0 hp w) (hf : Fr (Imm P0 B hp) w a fr) :
  wpOp P ops (ZDV Q P0 B w0) i (wpAny P .any ops (ZDV Q P0 B w0) g (S.toArray.setIfInBounds i true)) a w := by
 have h1 := h.on hh hf
 unfold wpList at h1
 unfold wpOp
 simp only [ho]
 have he : S.toArray.setIfInBounds i true = (S.set i true).toArray := by simp
 rw [he]
 have hK : ∀ a' w', wpList P ops (ZDV (ThenA P ops Q g (S.set i true)) P0 B w0) [] a' w' -> wpAny P .any ops (ZDV Q P0 B w0) g (S.set i true).toArray a' w' := fun a' w' hn => by
  obtain ⟨f, p, q, r, s⟩ := (hn : ZDV (ThenA P ops Q g (S.set i true)) P0 B w0 .normal a' w')
  exact (q : WA P ops Q g (S.set i true) f p).out _ _ _ _ _ r s
 have hQ : ∀ e a' w', e ≠ .normal -> ZDV (ThenA P ops Q g (S.set i true)) P0 B w0 e a' w' -> ZDV Q P0 B w0 e a' w' := fun e a' w' hne ⟨f, p, q, r, s⟩ => by
  cases e with
  | normal => exact absurd rfl hne
  | _ => exact ⟨f, p, q, r, s⟩
 split
 ·rename_i hw
  rw [if_pos hw] at h1
  rcases h1 with h1 | ⟨h1, a2, w2, h2⟩
  ·exact .inl (ZMS hK hQ h1)
  ·exact .inr ⟨h1, a2, w2, hQ _ _ _ (by simp) h2⟩
 ·rename_i hw
  rw [if_neg hw] at h1
  exact hK _ _ h1
theorem WA.one {l : List Oper} {i : Nat} {o : Oper} (hr : Region.ready .any l.toArray S.toArray = [i]) (ho : l[i]? = some o) (h : WL P l.toArray (ThenA P l.toArray Q g (S.set i true)) [o] fr hp) : WA P l.toArray Q (g + 1) S fr hp := WA.of fun P0 B w0 w a hh hf => by
 refine ⟨fun h0 => (by rw [hr] at h0; cases h0), fun j hj => ?_⟩
 rw [hr] at hj
 cases List.mem_singleton.1 hj
 exact WA.step (by simpa using ho) h hh hf
theorem ThenA.n (h : WA P ops Q g S fr hp) : ThenA P ops Q g S .normal fr hp := h
end
end
section
open Go.RowKit
def ZEe (md : Region.Mode) (ops : Array Oper) (n : Nat) : Bool :=
 (List.range ops.size).all fun t => decide (t ≤ n) || (List.range ops.size).any fun s => decide (n ≤ s) && Region.waitsFor md ops t s
theorem ZE4 {md : Region.Mode} {ops : Array Oper} {n : Nat} {listed : Array Bool} (hs : Region.sinkB md ops n = true) (hc : ZEe md ops n = true) (hn : n < ops.size) (inv : HeadInv md ops n listed) :
  ∀ (d i : Nat), n - i = d -> i < n -> listed.getD i true = false -> ∀ t, n ≤ t -> t ∉ Region.ready md ops listed := by
 intro d
 induction d using Nat.strongRecOn with
 | _ d ih =>
  intro i hd hi hun t ht hr
  obtain ⟨_, ot, hot, hall⟩ := mem_ready.1 hr
  have htlt : t < ops.size := (Array.getElem?_eq_some_iff.1 hot).1
  by_cases htn : t = n
  ·subst htn
   have h1 := List.all_eq_true.1 hs i (List.mem_range.2 hi)
   obtain ⟨j, hj, hj2⟩ := List.any_eq_true.1 h1
   simp only [Bool.and_eq_true, decide_eq_true_eq] at hj2
   obtain ⟨oj, hoj, e, he, hb, hon⟩ := Region.waitsFor_spec hj2.2
   have hjle : j ≤ t := by have := List.mem_range.1 hj; omega
   by_cases hjt : j = t
   ·subst hjt
    have : oj = ot := Option.some.inj (hoj.symm.trans hot)
    subst this
    have h2 := hall e he hb
    rw [hon, getD_both hun] at h2
    cases h2
   ·cases hl : listed.getD j false with
    | true =>
     have h2 := inv.closed j oj hoj hl e he hb
     rw [hon, getD_both hun] at h2
     cases h2
    | false =>
     have hjs : j < listed.size := by rw [inv.size]; omega
     exact ih (t - j) (by omega) j rfl (by omega) (getD_in hjs hl) t (Nat.le_refl _) hr
  ·have h1 := List.all_eq_true.1 hc t (List.mem_range.2 htlt)
   simp only [Bool.or_eq_true, decide_eq_true_eq] at h1
   rcases h1 with h1 | h1
   ·omega
   ·obtain ⟨s, hsr, hsw⟩ := List.any_eq_true.1 h1
    simp only [Bool.and_eq_true, decide_eq_true_eq] at hsw
    obtain ⟨o', ho', e, he, hb, hon⟩ := Region.waitsFor_spec hsw.2
    have : o' = ot := Option.some.inj (ho'.symm.trans hot)
    subst this
    have h2 := hall e he hb
    rw [hon, getD_both (inv.tail s hsw.1 (List.mem_range.1 hsr))] at h2
    cases h2
section
variable {P : Program} {ops : Array Oper} {md : Region.Mode} {fr fr' : List Dat} {hp : List HObj} {C : List HObj -> Prop}
def sOpM (P : Program) (ops : Array Oper) (C : List HObj -> Prop) (i : Nat) (K : List Dat -> List HObj -> Prop) (fr : List Dat) (hp : List HObj) : Prop :=
 ∃ o, ops[i]? = some o /\ ((∃ d, (∀ hp', C hp' -> SYG P ops hp' o fr d) /\ K (ZB fr o.dst d) hp) \/
  ∃ (β : Type) (H : β -> List HObj) (D : β -> Dat), SW P ops hp H D o fr /\ (∀ x, C (H x)) /\ ∀ x, K (ZB fr o.dst (D x)) (H x))
def ZE8 (P : Program) (md : Region.Mode) (ops : Array Oper) (C : List HObj -> Prop) (n : Nat) (L : Array Bool -> List Dat -> List HObj -> Prop) : Nat -> Array Bool -> List Dat -> List HObj -> Prop
 | 0, listed, fr, hp => L listed fr hp
 | f + 1, listed, fr, hp =>
  Region.ready md ops listed ≠ [] /\ ∀ i ∈ Region.ready md ops listed, i < n /\ sOpM P ops C i (ZE8 P md ops C n L f (listed.setIfInBounds i true)) fr hp
theorem ZBO {n g : Nat} {L : Array Bool -> List Dat -> List HObj -> Prop} {Q' : Exit -> Act -> World -> Prop} {P0 : Nat -> Prop} {B : Nat} {w0 : World} : ∀ (f : Nat) (listed : Array Bool) (fr : List Dat) (hp : List HObj) (a : Act) (w : World), C hp -> Hp P0 B w0 hp w -> Fr (Imm P0 B hp) w a fr ->
  (∀ listed fr hp a w', Hp P0 B w0 hp w' -> Fr (Imm P0 B hp) w' a fr -> L listed fr hp -> wpAny P md ops Q' g listed a w') -> ZE8 P md ops C n L f listed fr hp -> wpAny P md ops Q' (f + g) listed a w
 | 0, listed, fr, hp, a, w, _, hh, hf, hL, h => by rw [Nat.zero_add]; exact hL _ _ _ _ _ hh hf h
 | f + 1, listed, fr, hp, a, w, hc, hh, hf, hL, h => by
  rw [show f + 1 + g = (f + g) + 1 by omega]
  refine ⟨fun h0 => absurd h0 h.1, fun i hi => ?_⟩
  obtain ⟨o, ho, h1⟩ := (h.2 i hi).2
  unfold wpOp
  simp only [ho]
  rcases h1 with ⟨d, hs, hk⟩ | ⟨β, H, D, hw, hC, hk⟩
  ·have := (hs hp hc).step (Q := Q') hh hf (K := wpAny P md ops Q' (f + g) (listed.setIfInBounds i true)) fun a' w' e hf' => ZBO f _ _ hp _ _ hc (hh.ext e) hf' hL hk
   split
   ·rename_i hw; rw [if_pos hw] at this; exact .inl this
   ·rename_i hw; rw [if_neg hw] at this; exact this
  ·have hwant : Region.wanted o (yielded ops a.tmps) = true := by simp [Region.wanted, hw.guard]
   rw [if_pos hwant]
   exact .inl (hw.out hh (hf.on _) _ _ fun x v w' hh' hrd hd => ZBO f _ _ (H x) _ _ (hC x) hh' (Fr.put (hf.mono fun d u hu => hrd d u hu) hd) hL (hk x))
theorem ZHL {n i : Nat} {oi : Oper} {di : Dat} {L : Array Bool -> List Dat -> List HObj -> Prop} (hi : ops[i]? = some oi)
  (hs : Region.sinkB md ops n = true) (hc : ZEe md ops n = true) (hn : n < ops.size) (hin : i < n)
  (hdone : ∀ listed a c, L listed a c -> ∀ j ∈ Region.ready md ops listed, n ≤ j) :
  ∀ (f : Nat) (listed : Array Bool) (fr : List Dat) (hp : List HObj), HeadInv md ops n listed ->
   (∀ j oj, ops[j]? = some oj -> j ≠ i -> listed.getD j true = false -> (∀ e ∈ oj.after, Region.binds md e = true -> e.on ≠ i) -> oi.apart ops oj = true) ->
   i ∈ Region.ready md ops listed -> (∀ hp', C hp' -> SYG P ops hp' oi fr di) ->
   ZE8 P md ops C n L f (listed.setIfInBounds i true) (ZB fr oi.dst di) hp -> ZE8 P md ops C n L (f + 1) listed fr hp := by
 intro f
 induction f with
 | zero =>
  intro listed fr hp inv _ hr hy H
  have hun := (mem_ready.1 hr).1
  refine ⟨fun h => (by rw [h] at hr; cases hr), fun j hj => ?_⟩
  have hjn : j < n := by
   rcases Nat.lt_or_ge j n with h | h
   ·exact h
   ·exact absurd hj (ZE4 hs hc hn inv _ i rfl hin hun j h)
  refine ⟨hjn, ?_⟩
  by_cases hji : j = i
  ·subst hji; exact ⟨oi, hi, .inl ⟨di, hy, H⟩⟩
  ·have := hdone _ _ _ H j (ready_mono hj hji)
   omega
 | succ f ih =>
  intro listed fr hp inv hfree hr hy H
  have hun := (mem_ready.1 hr).1
  refine ⟨fun h => (by rw [h] at hr; cases hr), fun j hj => ?_⟩
  have hjn : j < n := by
   rcases Nat.lt_or_ge j n with h | h
   ·exact h
   ·exact absurd hj (ZE4 hs hc hn inv _ i rfl hin hun j h)
  refine ⟨hjn, ?_⟩
  by_cases hji : j = i
  ·subst hji; exact ⟨oi, hi, .inl ⟨di, hy, H⟩⟩
  ·obtain ⟨oj', hoj', h1⟩ := (H.2 j (ready_mono hj hji)).2
   obtain ⟨hjun, oj, hoj, hall⟩ := mem_ready.1 hj
   have hoo : oj = oj' := by rw [hoj] at hoj'; simpa using hoj'
   subst hoo
   have hnot : ∀ e ∈ oj.after, Region.binds md e = true -> e.on ≠ i := fun e he hb heq => by
    have h1 := hall e he hb
    rw [heq, getD_both hun] at h1
    cases h1
   obtain ⟨a1, a2, a3⟩ := Oper.apart_spec (hfree j oj hoj hji hjun hnot)
   have hfree' : ∀ k ok, ops[k]? = some ok -> k ≠ i -> (listed.setIfInBounds j true).getD k true = false ->
     (∀ e ∈ ok.after, Region.binds md e = true -> e.on ≠ i) -> oi.apart ops ok = true := fun k ok hk hki hun hno => by
    refine hfree k ok hk hki ?_ hno
    by_cases hjk : j = k
    ·subst hjk; exact hjun
    ·rw [getD_set_ne true hjk] at hun; exact hun
   have key : ∀ (d : Dat) (hp' : List HObj), ZE8 P md ops C n L f ((listed.setIfInBounds i true).setIfInBounds j true) (ZB (ZB fr oi.dst di) oj.dst d) hp' ->
     ZE8 P md ops C n L (f + 1) (listed.setIfInBounds j true) (ZB fr oj.dst d) hp' := fun d hp' hk => by
    refine ih (listed.setIfInBounds j true) (ZB fr oj.dst d) hp' (inv.set hj hjn) hfree' (ready_mono hr (Ne.symm hji)) (fun c hc => (hy c hc).same (ZAr _ _ _) fun t ht => ZBB fun e => a3 t e ht) ?_
    rw [Array.setIfInBounds_comm _ _ hji, <- ZE1 fr di d a2]
    exact hk
   refine ⟨oj, hoj, ?_⟩
   rcases h1 with ⟨d, hs', hk⟩ | ⟨β, H', D, hw, hC, hk⟩
   ·exact .inl ⟨d, fun c hc => (hs' c hc).same (ZAr _ _ _).symm fun t ht => (ZBB fun e => a1 t e ht).symm, key _ _ hk⟩
   ·exact .inr ⟨β, H', D, hw.same (ZAr _ _ _).symm fun t ht => (ZBB fun e => a1 t e ht).symm, hC, fun x => key _ _ (hk x)⟩
def ZMj (md : Region.Mode) (ops : Array Oper) (n : Nat) : List (Nat × Bool) -> Array Bool -> Bool
 | [], listed => (Region.ready md ops listed).all fun j => decide (n ≤ j)
 | (i, false) :: r, listed => decide (i < n) && (Region.ready md ops listed).contains i && Region.free md ops listed i && ZMj md ops n r (listed.setIfInBounds i true)
 | (i, true) :: r, listed => decide (i < n) && decide (Region.ready md ops listed = [i]) && ZMj md ops n r (listed.setIfInBounds i true)
inductive WM (P : Program) (ops : Array Oper) (C : List HObj -> Prop) (Q : List Dat -> List HObj -> Prop) : List (Nat × Bool) -> List Dat -> List HObj -> Prop
 | nil {fr : List Dat} {hp : List HObj} : Q fr hp -> WM P ops C Q [] fr hp
 | read {i : Nat} {o : Oper} {r : List (Nat × Bool)} {fr : List Dat} {hp : List HObj} {d : Dat} : ops[i]? = some o -> (∀ hp', C hp' -> SYG P ops hp' o fr d) -> WM P ops C Q r (ZB fr o.dst d) hp -> WM P ops C Q ((i, false) :: r) fr hp
 | write {i : Nat} {o : Oper} {r : List (Nat × Bool)} {fr : List Dat} {hp : List HObj} {β : Type} {H : β -> List HObj} {D : β -> Dat} : ops[i]? = some o -> SW P ops hp H D o fr -> (∀ x, C (H x)) -> (∀ x, WM P ops C Q r (ZB fr o.dst (D x)) (H x)) -> WM P ops C Q ((i, true) :: r) fr hp
theorem ZC0 {n : Nat} {Q : List Dat -> List HObj -> Prop} (hs : Region.sinkB md ops n = true) (hc : ZEe md ops n = true) (hn : n < ops.size) :
  ∀ (l : List (Nat × Bool)) (listed : Array Bool) (fr : List Dat) (hp : List HObj), HeadInv md ops n listed -> ZMj md ops n l listed = true -> WM P ops C Q l fr hp ->
  ZE8 P md ops C n (fun listed' f p => (∀ j ∈ Region.ready md ops listed', n ≤ j) /\ listed' = l.foldl (fun s p => s.setIfInBounds p.1 true) listed /\ Q f p) l.length listed fr hp
 | [], listed, fr, hp, _, hB, h => by
  cases h
  rename_i h
  refine ⟨fun j hj => ?_, rfl, h⟩
  simp only [ZMj, List.all_eq_true, decide_eq_true_eq] at hB
  exact hB j hj
 | (i, false) :: r, listed, fr, hp, inv, hB, h => by
  cases h
  rename_i o d ho hy hk
  simp only [ZMj, Bool.and_eq_true, decide_eq_true_eq] at hB
  obtain ⟨⟨⟨hin, hr⟩, hf⟩, hB'⟩ := hB
  have hr' : i ∈ Region.ready md ops listed := by simpa using hr
  exact ZHL ho hs hc hn hin (fun _ _ _ hL => hL.1) r.length listed fr hp inv (Region.free_spec ho hf) hr' hy
   (ZC0 hs hc hn r _ _ _ (inv.set hr' hin) hB' hk)
 | (i, true) :: r, listed, fr, hp, inv, hB, h => by
  simp only [ZMj, Bool.and_eq_true, decide_eq_true_eq] at hB
  obtain ⟨⟨hin, hr⟩, hB'⟩ := hB
  have hr' : i ∈ Region.ready md ops listed := by rw [hr]; simp
  cases h with
  | write ho hw hC hk =>
   refine ⟨fun h0 => (by rw [hr] at h0; cases h0), fun j hj => ?_⟩
   rw [hr] at hj
   cases List.mem_singleton.1 hj
   exact ⟨hin, _, ho, .inr ⟨_, _, _, hw, hC, fun x => ZC0 hs hc hn r _ _ _ (inv.set hr' hin) hB' (hk x)⟩⟩
theorem WC.drawM {id : Nat} {l : List Oper} {Q : ZAb} (C : List HObj -> Prop) (n m : Nat) (ord : List (Nat × Bool)) (S : List Bool) (hm : P.follows .mixedOrders = true)
  (hB : (decide (n < l.toArray.size) && Region.sinkB .any l.toArray n && ZEe .any l.toArray n && ZMj .any l.toArray n ord (Array.replicate l.toArray.size false)) = true) (hS : ord.foldl (fun s p => s.setIfInBounds p.1 true) (Array.replicate l.toArray.size false) = S.toArray) (hlen : l.length = ord.length + m) (hC : C hp)
  (h : WM P l.toArray C (fun f p => WA P l.toArray Q m S f p) ord fr hp) : WC P Q (.region id l.toArray true) fr hp := by
 refine WC.of fun P0 B w0 w a hh hf => ?_
 simp only [Bool.and_eq_true, decide_eq_true_eq] at hB
 obtain ⟨⟨⟨hn, hs⟩, hc⟩, hord⟩ := hB
 have inv0 : HeadInv .any l.toArray n (Array.replicate l.toArray.size false) :=
  ⟨by simp, fun j oj _ hl => (by rw [getD_replicate_false] at hl; cases hl), fun t _ ht => getD_in (by simpa using ht) (getD_replicate_false _ _)⟩
 have HW := ZC0 hs hc hn ord _ fr hp inv0 hord h
 have hx : Ext w { w with drawn := w.drawn + 1 } := (Ext.refl w).drew
 refine wp_region_any hm ?_
 have := ZBO (Q' := ZDV Q P0 B w0) (g := m) _ _ _ hp _ _ hC (hh.ext hx) (hf.ext hx) (fun listed' fr' hp' a' w' hh' hf' hL => by
  rw [hL.2.1, hS]
  exact hL.2.2.out _ _ _ _ _ hh' hf') HW
 rw [show l.toArray.size = ord.length + m by simpa using hlen]
 rw [show (l.toArray.size) = ord.length + m by simpa using hlen] at this
 exact this
theorem ZBC {l : List Oper} {Q : List Dat -> List HObj -> Prop} {i : Nat} {o : Oper} {r : List (Nat × Bool)} {d : Dat} (ho : l[i]? = some o) (h : ∀ hp', C hp' -> SYG P l.toArray hp' o fr d) (k : WM P l.toArray C Q r (ZB fr o.dst d) hp) : WM P l.toArray C Q ((i, false) :: r) fr hp := WM.read (by simpa using ho) h k
theorem ZAf {l : List Oper} {Q : List Dat -> List HObj -> Prop} {i : Nat} {o : Oper} {r : List (Nat × Bool)} {β : Type} {H : β -> List HObj} {D : β -> Dat} (ho : l[i]? = some o) (h : SW P l.toArray hp H D o fr) (hC : ∀ x, C (H x)) (k : ∀ x, WM P l.toArray C Q r (ZB fr o.dst (D x)) (H x)) : WM P l.toArray C Q ((i, true) :: r) fr hp := WM.write (by simpa using ho) h hC k
theorem WM.id {Q : List Dat -> List HObj -> Prop} {r : List (Nat × Bool)} (h : WM P ops C Q r fr hp) : WM P ops C Q r fr hp := h
end
end
section
open Go.RowKit
section
variable {P : Program} {ops : Array Oper} {md : Region.Mode} {fr fr' : List Dat} {hp : List HObj} {C : List HObj -> Prop}
inductive WRd (P : Program) (ops : Array Oper) (C : List HObj -> Prop) (Q : List Dat -> Prop) : List Nat -> List Dat -> Prop
 | nil {fr : List Dat} : Q fr -> WRd P ops C Q [] fr
 | read {i : Nat} {o : Oper} {r : List Nat} {fr : List Dat} {d : Dat} : ops[i]? = some o -> (∀ hp', C hp' -> SYG P ops hp' o fr d) -> WRd P ops C Q r (ZB fr o.dst d) -> WRd P ops C Q (i :: r) fr
structure W2 (P : Program) (ops : Array Oper) (C : List HObj -> Prop) (R : List Dat -> List HObj -> Prop) (i j : Nat) (fr : List Dat) (hp : List HObj) : Prop where
 out : ∃ oi oj, ops[i]? = some oi /\ ops[j]? = some oj /\ ∃ (β : Type) (H : β -> List HObj) (D : β -> Dat), SW P ops hp H D oi fr /\ (∀ x, C (H x)) /\ ∀ x, ∃ (γ : Type) (H2 : γ -> List HObj) (D2 : γ -> Dat), SW P ops (H x) H2 D2 oj (ZB fr oi.dst (D x)) /\ (∀ y, C (H2 y)) /\ ∀ y, R (ZB (ZB fr oi.dst (D x)) oj.dst (D2 y)) (H2 y)
theorem ZCB {l : List Oper} {Q : List Dat -> Prop} {i : Nat} {o : Oper} {r : List Nat} {d : Dat} (ho : l[i]? = some o) (h : ∀ hp', C hp' -> SYG P l.toArray hp' o fr d) (k : WRd P l.toArray C Q r (ZB fr o.dst d)) : WRd P l.toArray C Q (i :: r) fr := WRd.read (by simpa using ho) h k
theorem W2.id {R : List Dat -> List HObj -> Prop} {i j : Nat} (h : W2 P ops C R i j fr hp) : W2 P ops C R i j fr hp := h
theorem WRd.id {Q : List Dat -> Prop} {r : List Nat} (h : WRd P ops C Q r fr) : WRd P ops C Q r fr := h
theorem SW.alloc {dst : Option Tmp} {ty : TypeId} {ps : String} {af : Array Edge} {T : TypeId} {n : Nat} {agg : Bool} {z : Value} (hz : TyZ P T z) (hs : (dX z).Shape n agg) :
  SW P ops hp (fun b : Nat => ZAB b T n agg (dX z) :: hp) (fun b => dX (.pointer (some ⟨b, 0, none⟩))) ⟨dst, .alloc T, ty, ps, af, none⟩ fr := ⟨rfl, fun {P0 B w0 w a} hh ho K Q hk => by
 obtain ⟨cs, k1, k0, k2, k3, k4⟩ := hs (fun _ => True) w z rfl
 have hrun : (execOp a.eval ⟨dst, .alloc T, ty, ps, af, none⟩).run P w = .ok (.value (.pointer (some ⟨w.heap.size, 0, none⟩))) (w.alloc (.cells cs.toArray T)) := by
  cases hq : P.info? T with
  | none => have := hz.out; simp [hq] at this
  | some i =>
   have hz' : i.zero = some z := by have := hz.out; simpa [hq] using this
   unfold execOp
   simp [Instr.alloc, zeroValue, typeInfo, hq, hz', newVar, newRow, k3]
 unfold Oper.wp
 rw [hrun]
 have hx := ZF w (.cells cs.toArray T)
 have hb : ∀ k, (ZAB w.heap.size T n agg (dX z)).blk = some k -> w.heap.size ≤ k /\ k < (w.alloc (.cells cs.toArray T)).heap.size := fun k hk => by
  cases hk
  exact ⟨Nat.le_refl _, by simp⟩
 exact hk w.heap.size _ _ (hh.push hx hb ⟨cs, z, ZAT w _, k1, k0, k2, k4, rfl⟩) (fun d u hd => ZAZ hx (fun k hk => (hb k hk).1) hd) rfl⟩
end
end
section
open Go.RowKit
section
variable {P : Program} {ops : Array Oper} {hp : List HObj} {fr : List Dat} {d : Dat} {dst : Option Tmp} {ty : TypeId} {ps : String} {af : Array Edge} {t e : TypeId} {n : Nat} {z : Value} {bytes : Nat} {ag : Bool}
theorem ZAD {x : Operand} {t b n : Nat} {T T2 : TypeId} {agg : Bool} {d0 : Dat} (hT : TyI P T n agg) (hp0 : OpD fr (.tmp t) (dX (.pointer (some ⟨b, 0, none⟩)))) (hx : OpD fr x d) (hs : d.Shape n agg) :
  SW P ops (ZAB b T2 n agg d0 :: hp) (fun _ : Unit => ZAB b T2 n agg d :: hp) (fun _ => dX undef) ⟨none, .store T (.tmp t) x, ty, ps, af, none⟩ fr := ⟨rfl, fun {P0 B w0 w a} hh ho K Q hk => by
 obtain ⟨cs, u, c1, c2, c0, c3, c4, c5⟩ := hh.ok (ZAB b T2 n agg d0) (by simp)
 have h1 : d.rd (Imm P0 B (ZAB b T2 n agg d0 :: hp)) w (a.eval x) := hx.get (by simp [Op.operands]) ho
 obtain ⟨cs', k1, k0, k2, k3, k4⟩ := hs _ _ _ h1
 have h2 : a.eval (.tmp t) = .pointer (some ⟨b, 0, none⟩) := hp0.get (by simp [Op.operands]) ho
 have hr := ZDt (u := a.eval x) hT.size c1 c2 k1 k2 k3
 have hrun : (execOp a.eval ⟨none, .store T (.tmp t) x, ty, ps, af, none⟩).run P w = .ok .skip (w.setRow b cs'.toArray) := by
  unfold execOp
  simp only [h2, Sem.run_bind, hr, Result.andThen_ok, Sem.run_pure]
 unfold Oper.wp
 rw [hrun]
 have hgr : w.grownBy (w.setRow b cs'.toArray) (ZAB b T2 n agg d0).blk := ZBV
 have hok : (ZAB b T2 n agg d).ok (fun k => Imm P0 B (ZAB b T2 n agg d0 :: hp) k /\ k < w.heap.size) (w.setRow b cs'.toArray) :=
  ⟨cs', a.eval x, setRow_heap w b _ _ _ _ c1, k1, k0, k2, k4, d.grown (d.bound h1) hgr (fun k hk hc => hc.1.2 _ (by simp) hk)⟩
 exact hk () undef _ (hh.write hgr (.inl rfl) hok) (fun d' u hd => Z9 (o' := ZAB b T2 n agg d) hgr (.inl rfl) hd) rfl⟩
end
end
end Go.Proofs.YtjmignmnlpamjaaGreat
