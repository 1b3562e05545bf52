/-
  Part 12 of the texts that the claims of this seat lean on: walks of the program's functions by contracts over symbolic frames, and plain laws of what they compute. No condition.
-/
import Derived.Test.YtkedmlandjlogaaV10
import Derived.Test.YtkedmlandjlogaaV11
set_option linter.unusedVariables false
set_option linter.unusedSimpArgs false
set_option linter.unusedSectionVars false
namespace Go.Proofs.Ytkedmlandjlogaa
open Go.RowKit
def MapR {K α : Type} (kv : K → Value) (R : Rel α) : Rel (List (K × α)) := fun P w v m =>
  ∃ (b : Nat) (us : List Value), v = .map (some b) ∧ P b ∧ us.length = m.length ∧ w.heap[b]? = some (mapObj (encM kv id ((m.map (·.1)).zip us))) ∧ ∀ k (h : k < us.length) (h' : k < m.length), R P w us[k] m[k].2
theorem lt_of_heap {w : World} {b : Nat} {o : Obj} (h : w.heap[b]? = some o) : b < w.heap.size := (Array.getElem?_eq_some_iff.1 h).1
instance {K α : Type} (kv : K → Value) (R : Rel α) [Good R] : Good (MapR kv R) where
  weak := fun ⟨b, us, h1, h2, h3, h4, h5⟩ q => ⟨b, us, h1, q b h2, h3, h4, fun k a c => Good.weak (h5 k a c) q⟩
  move := fun ⟨b, us, h1, h2, h3, h4, h5⟩ q => ⟨b, us, h1, h2, h3, (q b h2 (lt_of_heap h4)).trans h4, fun k a c => Good.move (h5 k a c) q⟩
  bound := fun ⟨b, us, h1, h2, h3, h4, h5⟩ => ⟨b, us, h1, ⟨h2, lt_of_heap h4⟩, h3, h4, fun k a c => Good.bound (h5 k a c)⟩
section
variable {P : Program} {ops : Array Oper} {hp : List HObj} {fr : List Dat} {d : Dat}
variable {dst : Option Tmp} {ty : TypeId} {ps : String} {af : Array Edge} {g : Option (Nat × Bool)} {t k e : TypeId} {z : Value} {K α : Type} [DecidableEq K] {kv : K → Value} {ok : K → Prop} {R : Rel α} {m : List (K × α)}
theorem lookM_zip {m : List (K × α)} {us : List Value} (h : us.length = m.length) (x : K) : (lookM m x = none ∧ lookM ((m.map (·.1)).zip us) x = none) ∨ ∃ (j : Nat) (h1 : j < us.length) (h2 : j < m.length), lookM m x = some m[j].2 ∧ lookM ((m.map (·.1)).zip us) x = some us[j] := by
  induction m generalizing us with
  | nil => exact .inl ⟨rfl, by cases us <;> rfl⟩
  | cons p m ih =>
    cases us with
    | nil => simp at h
    | cons u us =>
      by_cases hp : p.1 = x
      · refine .inr ⟨0, by simp, by simp, ?_, ?_⟩
        · unfold lookM; rw [List.find?_cons_of_pos (by simpa using hp)]; rfl
        · unfold lookM; simp only [List.map_cons, List.zip_cons_cons]; rw [List.find?_cons_of_pos (by simpa using hp)]; rfl
      · rcases ih (us := us) (by simpa using h) with ⟨h1, h2⟩ | ⟨j, h1, h2, h3, h4⟩
        · refine .inl ⟨?_, ?_⟩
          · unfold lookM at h1 ⊢; rw [List.find?_cons_of_neg (by simpa using hp)]; exact h1
          · unfold lookM at h2 ⊢; simp only [List.map_cons, List.zip_cons_cons]; rw [List.find?_cons_of_neg (by simpa using hp)]; exact h2
        · refine .inr ⟨j + 1, by simpa using h1, by simpa using h2, ?_, ?_⟩
          · unfold lookM at h3 ⊢; rw [List.find?_cons_of_neg (by simpa using hp)]; exact h3
          · unfold lookM at h4 ⊢; simp only [List.map_cons, List.zip_cons_cons]; rw [List.find?_cons_of_neg (by simpa using hp)]; exact h4
theorem SY.lookR [Good R] {x y : Operand} {v : K} {a0 : α} (T : MapT P t k e z) (H : KeyT P k kv ok) (hx : OpD fr x (dS (MapR kv R) m)) (hy : OpD fr y d) (hd : IsV d (kv v)) (ho : ok v) (hok : ∀ p ∈ m, ok p.1) (hn : (m.map (·.1)).Nodup) (hz : ∀ I w, R I w z a0) :
    SY P ops hp { dst := dst, op := .lookup t x y false, type := ty, pos := ps, after := af, guard := g } fr (dS R ((Go.Proofs.Ytkedmlandjlogaa.lookM m v).getD a0)) := SY.val fun {I w a} hon => by
  obtain ⟨b, us, h1, h2, h3, h4, h5⟩ := hx.get (by simp [Op.operands]) hon
  have h6 := hd.is _ _ _ (hy.get (by simp [Op.operands]) hon)
  have hkeys : ((m.map (·.1)).zip us).map (·.1) = m.map (·.1) := by rw [List.map_fst_zip]; simp [h3]
  refine ⟨((Go.Proofs.Ytkedmlandjlogaa.lookM ((m.map (·.1)).zip us) v).map id).getD z, ?_, ?_⟩
  · unfold execOp
    simp only [h1, h6, Sem.run_bind, run_lookup (vv := id) T H (fun (p : K × Value) (hp : p ∈ (m.map (·.1)).zip us) => by
      have : p.1 ∈ m.map (·.1) := by rw [← hkeys]; exact List.mem_map_of_mem hp
      obtain ⟨q, hq, he⟩ := List.mem_map.1 this
      rw [← he]; exact hok q hq) (by rw [hkeys]; exact hn) ho h4 false, Result.andThen_ok, Sem.run_pure]
    rfl
  · rcases lookM_zip h3 v with ⟨e1, e2⟩ | ⟨j, j1, j2, e1, e2⟩
    · rw [e1, e2]; exact hz I w
    · rw [e1, e2]; exact h5 j j1 j2
end
theorem FinD.map {hp : List HObj} {b : Nat} {e : TypeId} {K α : Type} {kv : K → Value} {R : Rel α} {_gR : Good R} {M : List (K × Value × List α)} (hm : hM b kv (fun p : Value × List α => p.1) M ∈ hp) (hr : ∀ p ∈ M, hRow p.2.1 e R p.2.2 ∈ hp) :
    FinD hp (dX (.map (some b))) (dS (MapR kv (Arr R)) (M.map fun p => (p.1, p.2.2))) := FinD.mk fun {P0 B w0 w u} hh hd => by
  have hb : w.heap[b]? = some (mapObj _) := hh.ok _ hm
  refine ⟨b, M.map fun p => p.2.1, hd, own_blocks hh hm rfl, by simp, ?_, fun k h1 h2 => ?_⟩
  · rw [hb]
    congr 2
    unfold encM
    simp only [List.map_map]
    rw [List.zip_map', List.map_map]
    rfl
  · have hk : k < M.length := by simpa using h1
    have : Arr R (fun b => P0 b ∨ B ≤ b) w M[k].2.1 M[k].2.2 := (FinD.row (hr _ (List.getElem_mem hk))).out (v := M[k].2.1) hh rfl
    simpa using this
end Go.Proofs.Ytkedmlandjlogaa
namespace Go.Proofs.Ytkedmlandjlogaa
open Go.RowKit
section
variable {P : Program} {ops : Array Oper} {hp : List HObj} {o : Oper} {fr : List Dat} {d d2 : Dat} {Q : Post} {rest : List Oper}
variable {dst : Option Tmp} {ty : TypeId} {ps : String} {af : Array Edge} {t k e : TypeId} {z : Value} {K V : Type} [DecidableEq K] {kv : K → Value} {ok : K → Prop} {vv : V → Value} {b r : Nat} {m : List (K × V)}
theorem rd_t2 {I : Nat → Prop} {w : World} (u : Value) (n : Int) : (dT [dX u, dI n]).rd I w (.tuple #[u, .int .i64 n]) := ⟨[u, .int .i64 n], rfl, rfl, fun i e x he hx => by
  match i, he, hx with
  | 0, he, hx => cases he; cases hx; rfl
  | 1, he, hx => cases he; cases hx; rfl⟩
theorem SW.entOld {x y : Operand} {v : K} {q : Nat} (T : MapT P t k e z) (H : KeyT P k kv ok) (hx : OpD fr x (dX (.map (some b)))) (hy : OpD fr y d) (hd : IsV d (kv v)) (ho : ok v) (hok : ∀ p ∈ m, ok p.1) (hn : (m.map (·.1)).Nodup) (hq : q < m.length) (hqv : m[q].1 = v) (zv : V) (hz : vv zv = z) :
    SW P ops (hM b kv vv m :: hp) (fun _ : Unit => hM b kv vv m :: hp) (fun _ => dT [dX (vv m[q].2), dI q]) { dst := dst, op := .mapEntry t x y, type := ty, pos := ps, after := af, guard := none } fr := ⟨rfl, fun {P0 B w0 w a} hh hon KK QQ hkk => by
  have e1 : a.eval x = _ := hx.get (by simp [Op.operands]) hon
  have e2 := hd.is _ _ _ (hy.get (by simp [Op.operands]) hon)
  rcases run_entry T H hok ho (hh.ok (hM b kv vv m) (by simp)) with ⟨j, hj, hjv, hr⟩ | ⟨hne, hr⟩
  · have hjq : j = q := by
      have hp := List.pairwise_iff_getElem.1 hn
      have a1 : j < (m.map (·.1)).length := by simpa using hj
      have a2 : q < (m.map (·.1)).length := by simpa using hq
      have h3 : (m.map (·.1))[j] = (m.map (·.1))[q] := by simp [hjv, hqv]
      rcases Nat.lt_trichotomy j q with h | h | h
      · exact absurd h3 (hp j q a1 a2 h)
      · exact h
      · exact absurd h3.symm (hp q j a2 a1 h)
    subst hjq
    have hrun : (execOp a.eval { dst := dst, op := .mapEntry t x y, type := ty, pos := ps, after := af, guard := none }).run P w = .ok (.value (.tuple #[vv m[j].2, .int .i64 j])) (w.putObj b (mapObj (encM kv vv m))) := by
      unfold execOp
      simp only [e1, e2, Sem.run_bind, hr, Result.andThen_ok, Sem.run_pure]
      rfl
    unfold Oper.wp
    rw [hrun]
    exact hkk () _ _ (Hp.putObj hh) (fun d u hd => Hp.putObj_rd hd) (rd_t2 _ _)
  · exact absurd hqv (hne _ (List.getElem_mem hq))⟩
theorem SW.entNew {x y : Operand} {v : K} (zv : V) (hz : vv zv = z) (T : MapT P t k e z) (H : KeyT P k kv ok) (hx : OpD fr x (dX (.map (some b)))) (hy : OpD fr y d) (hd : IsV d (kv v)) (ho : ok v) (hok : ∀ p ∈ m, ok p.1) (hne : ∀ p ∈ m, p.1 ≠ v) :
    SW P ops (hM b kv vv m :: hp) (fun _ : Unit => hM b kv vv (m ++ [(v, zv)]) :: hp) (fun _ => dT [dX z, dI m.length]) { dst := dst, op := .mapEntry t x y, type := ty, pos := ps, after := af, guard := none } fr := ⟨rfl, fun {P0 B w0 w a} hh hon KK QQ hkk => by
  have e1 : a.eval x = _ := hx.get (by simp [Op.operands]) hon
  have e2 := hd.is _ _ _ (hy.get (by simp [Op.operands]) hon)
  rcases run_entry T H hok ho (hh.ok (hM b kv vv m) (by simp)) with ⟨j, hj, hjv, hr⟩ | ⟨_, hr⟩
  · exact absurd hjv (hne _ (List.getElem_mem hj))
  · have hrun : (execOp a.eval { dst := dst, op := .mapEntry t x y, type := ty, pos := ps, after := af, guard := none }).run P w = .ok (.value (.tuple #[z, .int .i64 m.length])) (w.putObj b (mapObj (encM kv vv (m ++ [(v, zv)])))) := by
      unfold execOp
      simp only [e1, e2, Sem.run_bind, hr zv hz, Result.andThen_ok, Sem.run_pure]
      rfl
    unfold Oper.wp
    rw [hrun]
    exact hkk () _ _ (Hp.putObj hh) (fun d u hd => Hp.putObj_rd hd) (rd_t2 _ _)⟩
theorem WL.keepM {R : Rel V} [Good R] {s : Tmp} (hs : fr[s]? = some (dP 1 false (dX (.map (some b))))) (hvv : ∀ I w (y : V), R I w (vv y) y) (h : WL P ops Q rest (fr.set s (dP 1 false (dS (MapR kv R) m))) hp) : WL P ops Q rest fr (hM b kv vv m :: hp) := WL.of fun P0 B w0 w a hh hf => by
  refine h.on hh.drop ⟨hf.defers, by rw [hf.size, List.length_set], fun t' d' hd' => ?_⟩
  by_cases htt : s = t'
  · subst htt
    rw [List.getElem?_set] at hd'
    simp only [if_true] at hd'
    split at hd'
    · cases hd'
      obtain ⟨b', off, u, h1, h2, h3⟩ := hf.rd s _ hs
      have hown := hh.own (hM b kv vv m) (by simp) b rfl
      have hb : w.heap[b]? = some (mapObj _) := hh.ok (hM b kv vv m) (by simp)
      refine ⟨b', off, u, h1, ⟨Imm.sub _ h2.1, h2.2⟩, b, m.map fun p => vv p.2, h3, ⟨.inr hown.1, fun o ho hk => (List.pairwise_cons.1 hh.apart).1 o ho b rfl hk⟩, by simp, ?_, fun k h1 h2 => ?_⟩
      · rw [hb]
        congr 2
        unfold encM
        rw [List.zip_map', List.map_map]
        rfl
      · simp only [List.getElem_map]
        exact hvv _ _ _
    · cases hd'
  · rw [List.getElem?_set_ne htt] at hd'
    exact d'.weak (hf.rd t' d' hd') Imm.sub
end
end Go.Proofs.Ytkedmlandjlogaa
namespace Go.Proofs.Ytkedmlandjlogaa
open Go.RowKit
section
variable {P : Program} {ops : Array Oper} {hp : List HObj} {fr : List Dat} {Q : Post} {rest : List Oper} {c : Code} {d : Dat} {α : Type} {R : Rel α} {e : TypeId}
theorem WC.freeze {_gR : Good R} {v : Value} {xs : List α} (h : WC P Q c fr (hKnow v (dS (Arr R) xs) :: hp)) : WC P Q c fr (hRow v e R xs :: hp) := WC.of fun P0 B w0 w a hh hf => by
  have hg : (hKnow v (dS (Arr R) xs)).blk = none := rfl
  have hd : (dS (Arr R) xs).rd (Imm P0 B hp) w v := Own.keep hh
  exact h.on (Hp.ghost (l := []) hg hh.drop hd) (hf.mono fun d u hd => d.weak hd fun k hk => (imm_ghost hg [] k).2 (Imm.sub k hk))
theorem WC.freezeL {_gR : Good R} : ∀ (rs : List (Value × List α)) {hp : List HObj}, WC P Q c fr (rs.map (fun p => hKnow p.1 (dS (Arr R) p.2)) ++ hp) → WC P Q c fr (rs.map (fun p => hRow p.1 e R p.2) ++ hp)
  | [], _, h => h
  | r :: rs, hp, h => by
    show WC P Q c fr (hRow r.1 e R r.2 :: (rs.map (fun p => hRow p.1 e R p.2) ++ hp))
    refine WC.freeze (WC.perm' List.perm_middle.symm (WC.freezeL rs (hp := hKnow r.1 (dS (Arr R) r.2) :: hp) (WC.perm' List.perm_middle h)))
theorem WL.use {v : Value} (t : Nat) (ht : fr[t]? = some (dX v)) (hm : hKnow v d ∈ hp) (h : WL P ops Q rest (fr.set t d) hp) : WL P ops Q rest fr hp := WL.of fun P0 B w0 w a hh hf => by
  refine h.on hh ⟨hf.defers, by rw [hf.size, List.length_set], fun t' d' hd' => ?_⟩
  by_cases htt : t = t'
  · subst htt
    rw [List.getElem?_set] at hd'
    simp only [if_true] at hd'
    split at hd'
    · cases hd'
      have h1 : a.tmps.getD t undef = v := hf.rd t _ ht
      rw [h1]
      exact hh.ok _ hm
    · cases hd'
  · rw [List.getElem?_set_ne htt] at hd'
    exact hf.rd t' d' hd'
theorem bare_RV {x : Int × Int} : (dS RV x).Bare := fun _ _ _ _ _ h => h
structure CapH (hp : List HObj) (v : Value) (d : Dat) : Prop where
  out : ∀ {P0 : Nat → Prop} {B : Nat} {w0 w : World}, Hp P0 B w0 hp w → d.rd anyB w v
theorem CapH.map {K V : Type} {kv : K → Value} {vv : V → Value} {R : Rel V} [Good R] {M : List (K × V)} {b m : Nat} {T : TypeId} (h1 : hCell b T 1 false (dX (.map (some m))) ∈ hp) (h2 : hM m kv vv M ∈ hp) (hvv : ∀ I w (y : V), R I w (vv y) y) :
    CapH hp (.pointer (some ⟨b, 0, none⟩)) (dP 1 false (dS (MapR kv R) M)) := CapH.mk fun {P0 B w0 w} hh => by
  obtain ⟨cs, u, c1, c2, c0, c3, c4, c5⟩ := hh.ok _ h1
  have hu : u = .map (some m) := c5
  have hb : w.heap[m]? = some (mapObj _) := hh.ok _ h2
  refine ⟨b, 0, u, rfl, cells_of_obj c1 c2 c0 c3 c4 trivial, m, M.map fun p => vv p.2, hu, trivial, by simp, ?_, fun k q1 q2 => ?_⟩
  · rw [hb]
    congr 2
    unfold encM
    rw [List.zip_map', List.map_map]
    rfl
  · simp only [List.getElem_map]
    exact hvv _ _ _
theorem SY.callO {dst : Option Tmp} {ty : TypeId} {ps : String} {af : Array Edge} {g : Option (Nat × Bool)} {f : FuncId} {caps : List Value} {t : Tmp} {args : Array Operand} {ats : Array TypeId} {ds cds : List Dat} (hF : Fn P f (ds ++ cds) d) (hd : d.Bare) (he : Enters P f) (hc : OpD fr (.tmp t) (dX (.func (.func f) #[] caps.toArray))) (ha : ArgsD fr args.toList ds)
    (hl : caps.length = cds.length) (hcap : ∀ (i : Nat) (v : Value) (d : Dat), caps[i]? = some v → cds[i]? = some d → CapH hp v d) :
    SY P ops hp { dst := dst, op := .call { callee := .value (.tmp t), args := args, argTypes := ats }, type := ty, pos := ps, after := af, guard := g } fr d := SY.mk fun {P0 B w0 w a} hh ho K Q hk => by
  have hv : a.eval (.tmp t) = .func (.func f) #[] caps.toArray := hc.get (by simp [Op.operands, Call.operands]) ho
  have hal := ha.1
  have h1 := hF.out anyB w (args.toList.map a.eval ++ caps) (by simp [hl]; simpa using hal) fun i d hd => by
    by_cases hi : i < ds.length
    · rw [List.getElem?_append_left hi] at hd
      have hi' : i < args.toList.length := by omega
      have h2 := (ha.2 i _ d (List.getElem?_eq_getElem hi') hd).get (by simp only [Op.operands, Call.operands]; simp) ho
      have hi2 : i < args.size := by simpa using hi'
      rw [List.getD_eq_getElem?_getD, List.getElem?_append_left (by simpa using hi2)]
      exact d.weak (by simpa [hi2] using h2) fun _ _ => trivial
    · rw [List.getElem?_append_right (by omega)] at hd
      have hi3 : i - ds.length < caps.length := by rw [hl]; exact (List.getElem?_eq_some_iff.1 hd).1
      have h2 := (hcap _ _ d (List.getElem?_eq_getElem hi3) hd).out hh
      have hlen : (args.toList.map a.eval).length = ds.length := by rw [List.length_map, hal]
      rw [List.getD_eq_getElem?_getD, List.getElem?_append_right (by omega), hlen, List.getElem?_eq_getElem hi3]
      exact h2
  have hvs : args.map a.eval ++ caps.toArray = (args.toList.map a.eval ++ caps).toArray := by apply Array.ext'; simp
  unfold Oper.wp
  have h4 := he (args.map a.eval ++ caps.toArray) w
  have : (execOp a.eval { dst := dst, op := .call { callee := .value (.tmp t), args := args, argTypes := ats }, type := ty, pos := ps, after := af, guard := g }).run P w = .ok (.enter f (args.map a.eval ++ caps.toArray)) w := by
    unfold execOp
    simp only [resolve]
    simp [hv, Deferred.ofValue, invoke, h4]
  rw [this, hvs]
  exact h1.mono fun e w' ⟨v, he, e1, hd'⟩ => by subst he; exact hk v w' e1 (hd _ _ _ _ _ hd')
theorem SY.callO1 {dst : Option Tmp} {ty : TypeId} {ps : String} {af : Array Edge} {g : Option (Nat × Bool)} {f : FuncId} {cv : Value} {t : Tmp} {args : Array Operand} {ats : Array TypeId} {ds : List Dat} {cd : Dat} (hF : Fn P f (ds ++ [cd]) d) (hd : d.Bare) (he : Enters P f) (hc : OpD fr (.tmp t) (dX (.func (.func f) #[] [cv].toArray))) (ha : ArgsD fr args.toList ds) (hcap : CapH hp cv cd) :
    SY P ops hp { dst := dst, op := .call { callee := .value (.tmp t), args := args, argTypes := ats }, type := ty, pos := ps, after := af, guard := g } fr d :=
  SY.callO hF hd he hc ha rfl fun i v d' h1 h2 => by
    match i, h1, h2 with
    | 0, h1, h2 => cases h1; cases h2; exact hcap
end
section
variable {P : Program} {ops : Array Oper} {hp : List HObj} {fr : List Dat} {d : Dat}
variable {dst : Option Tmp} {ty : TypeId} {ps : String} {af : Array Edge} {g : Option (Nat × Bool)} {t k e : TypeId} {z : Value} {K α : Type} [DecidableEq K] {kv : K → Value} {ok : K → Prop} {R : Rel α} {m : List (K × α)}
theorem SY.lookR2 [Good R] {x y : Operand} {v : K} {a0 : α} (T : MapT P t k e z) (H : KeyT P k kv ok) (hx : OpD fr x (dS (MapR kv R) m)) (hy : OpD fr y d) (hd : IsV d (kv v)) (ho : ok v) (hok : ∀ p ∈ m, ok p.1) (hn : (m.map (·.1)).Nodup) (hz : ∀ I w, R I w z a0) :
    SY P ops hp { dst := dst, op := .lookup t x y true, type := ty, pos := ps, after := af, guard := g } fr (dT [dS R ((Go.Proofs.Ytkedmlandjlogaa.lookM m v).getD a0), dB (Go.Proofs.Ytkedmlandjlogaa.lookM m v).isSome]) := SY.val fun {I w a} hon => by
  obtain ⟨b, us, h1, h2, h3, h4, h5⟩ := hx.get (by simp [Op.operands]) hon
  have h6 := hd.is _ _ _ (hy.get (by simp [Op.operands]) hon)
  have hkeys : ((m.map (·.1)).zip us).map (·.1) = m.map (·.1) := by rw [List.map_fst_zip]; simp [h3]
  refine ⟨.tuple #[((Go.Proofs.Ytkedmlandjlogaa.lookM ((m.map (·.1)).zip us) v).map id).getD z, .bool (Go.Proofs.Ytkedmlandjlogaa.lookM ((m.map (·.1)).zip us) v).isSome], ?_, [((Go.Proofs.Ytkedmlandjlogaa.lookM ((m.map (·.1)).zip us) v).map id).getD z, .bool (Go.Proofs.Ytkedmlandjlogaa.lookM ((m.map (·.1)).zip us) v).isSome], rfl, rfl, fun i e x he hx => ?_⟩
  · unfold execOp
    simp only [h1, h6, Sem.run_bind, run_lookup (vv := id) T H (fun (p : K × Value) (hp : p ∈ (m.map (·.1)).zip us) => by
      have : p.1 ∈ m.map (·.1) := by rw [← hkeys]; exact List.mem_map_of_mem hp
      obtain ⟨q, hq, he⟩ := List.mem_map.1 this
      rw [← he]; exact hok q hq) (by rw [hkeys]; exact hn) ho h4 true, Result.andThen_ok, Sem.run_pure]
    rfl
  · rcases lookM_zip h3 v with ⟨e1, e2⟩ | ⟨j, j1, j2, e1, e2⟩
    · match i, he, hx with
      | 0, he, hx => cases he; cases hx; rw [e1, e2]; exact hz I w
      | 1, he, hx => cases he; cases hx; rw [e1, e2]; rfl
    · match i, he, hx with
      | 0, he, hx => cases he; cases hx; rw [e1, e2]; exact h5 j j1 j2
      | 1, he, hx => cases he; cases hx; rw [e1, e2]; rfl
theorem SY.lookR2n [Good R] {x y : Operand} {v : K} {a0 : α} (T : MapT P t k e z) (H : KeyT P k kv ok) (hx : OpD fr x (dS (MapR kv R) m)) (hy : OpD fr y d) (hd : IsV d (kv v)) (ho : ok v) (hok : ∀ p ∈ m, ok p.1) (hn : (m.map (·.1)).Nodup) (hz : ∀ I w, R I w z a0) (hl : Go.Proofs.Ytkedmlandjlogaa.lookM m v = none) :
    SY P ops hp { dst := dst, op := .lookup t x y true, type := ty, pos := ps, after := af, guard := g } fr (dT [dS R a0, dB false]) := by
  have := SY.lookR2 (ops := ops) (hp := hp) (dst := dst) (ty := ty) (ps := ps) (af := af) (g := g) T H hx hy hd ho hok hn hz
  rwa [hl] at this
theorem SY.lookR2s [Good R] {x y : Operand} {v : K} {a0 u : α} (T : MapT P t k e z) (H : KeyT P k kv ok) (hx : OpD fr x (dS (MapR kv R) m)) (hy : OpD fr y d) (hd : IsV d (kv v)) (ho : ok v) (hok : ∀ p ∈ m, ok p.1) (hn : (m.map (·.1)).Nodup) (hz : ∀ I w, R I w z a0) (hl : Go.Proofs.Ytkedmlandjlogaa.lookM m v = some u) :
    SY P ops hp { dst := dst, op := .lookup t x y true, type := ty, pos := ps, after := af, guard := g } fr (dT [dS R u, dB true]) := by
  have := SY.lookR2 (ops := ops) (hp := hp) (dst := dst) (ty := ty) (ps := ps) (af := af) (g := g) T H hx hy hd ho hok hn hz
  rwa [hl] at this
end
section
variable {P : Program} {ops : Array Oper} {hp : List HObj} {fr : List Dat} {d : Dat}
variable {dst : Option Tmp} {ty : TypeId} {ps : String} {af : Array Edge} {g : Option (Nat × Bool)} {t k e : TypeId} {z : Value} {K : Type} [DecidableEq K] {kv : K → Value} {ok : K → Prop} {m : List (K × Int)} {b : Nat}
abbrev vvN (n : Int) : Value := .int .i64 n
theorem SY.lookN {x y : Operand} {v : K} {u : Int} (T : MapT P t k e z) (H : KeyT P k kv ok) (hx : OpD fr x (dX (.map (some b)))) (hm : hM b kv vvN m ∈ hp) (hy : OpD fr y d) (hd : IsV d (kv v)) (ho : ok v) (hok : ∀ p ∈ m, ok p.1) (hn : (m.map (·.1)).Nodup) (hl : Go.Proofs.Ytkedmlandjlogaa.lookM m v = some u) :
    SY P ops hp { dst := dst, op := .lookup t x y false, type := ty, pos := ps, after := af, guard := g } fr (dI u) := by
  have := SY.lookM (ops := ops) (dst := dst) (ty := ty) (ps := ps) (af := af) (g := g) T H hx hm hy hd ho hok hn
  rwa [hl] at this
theorem SY.lookN2s {x y : Operand} {v : K} {u : Int} (T : MapT P t k e z) (H : KeyT P k kv ok) (hx : OpD fr x (dX (.map (some b)))) (hm : hM b kv vvN m ∈ hp) (hy : OpD fr y d) (hd : IsV d (kv v)) (ho : ok v) (hok : ∀ p ∈ m, ok p.1) (hn : (m.map (·.1)).Nodup) (hl : Go.Proofs.Ytkedmlandjlogaa.lookM m v = some u) :
    SY P ops hp { dst := dst, op := .lookup t x y true, type := ty, pos := ps, after := af, guard := g } fr (dT [dI u, dB true]) := by
  have := SY.lookM2 (ops := ops) (dst := dst) (ty := ty) (ps := ps) (af := af) (g := g) T H hx hm hy hd ho hok hn
  rwa [hl] at this
theorem SY.lookN2n {x y : Operand} {v : K} (T : MapT P t k e z) (H : KeyT P k kv ok) (hx : OpD fr x (dX (.map (some b)))) (hm : hM b kv vvN m ∈ hp) (hy : OpD fr y d) (hd : IsV d (kv v)) (ho : ok v) (hok : ∀ p ∈ m, ok p.1) (hn : (m.map (·.1)).Nodup) (hl : Go.Proofs.Ytkedmlandjlogaa.lookM m v = none) :
    SY P ops hp { dst := dst, op := .lookup t x y true, type := ty, pos := ps, after := af, guard := g } fr (dT [dX z, dB false]) := by
  have := SY.lookM2 (ops := ops) (dst := dst) (ty := ty) (ps := ps) (af := af) (g := g) T H hx hm hy hd ho hok hn
  rwa [hl] at this
end
end Go.Proofs.Ytkedmlandjlogaa
namespace Go.Proofs.Ytkedmlandjlogaa
open Go.RowKit
theorem wp_mono2 {P : Program} {o : Oper} {a : Act} {w : World} {K K' : Act → World → Prop} {Q Q' : Exit → Act → World → Prop} (h : ∀ a w, K a w → K' a w) (hq : ∀ e a w, e ≠ .normal → Q e a w → Q' e a w)
    (hh : o.wp P a w K Q) : o.wp P a w K' Q' := by
  have hl : LetsOut Q → LetsOut Q' := fun ⟨a, w, x⟩ => ⟨a, w, hq _ _ _ (by simp) x⟩
  unfold Oper.wp at *
  generalize (execOp a.eval o).run P w = r at *
  cases r with
  | ok n w' =>
    cases n <;> simp only [Oper.upon] at hh ⊢ <;>
      first
        | exact h _ _ hh
        | exact Calls.mono hh (fun e w'' he => by cases e <;> first | exact h _ _ he | exact hq _ _ _ (by simp) he | exact hl he)
        | exact Rows.mono hh (fun _ _ he => h _ _ he)
  | halt x w' => cases x <;> simp only [Oper.upon] at hh ⊢ <;> first | exact hh | exact hq _ _ _ (by simp) hh
structure WA (P : Program) (ops : Array Oper) (Q : Post) (g : Nat) (S : List Bool) (fr : List Dat) (hp : List HObj) : Prop where
  of ::
  out : ∀ (P0 : Nat → Prop) (B : Nat) (w0 w : World) (a : Act), Hp P0 B w0 hp w → Fr (Imm P0 B hp) w a fr → wpAny P .any ops (lift Q P0 B w0) g S.toArray a w
def ThenA (P : Program) (ops : Array Oper) (Q : Post) (g : Nat) (S : List Bool) : Post := fun e f p => match e with | .normal => WA P ops Q g S f p | e => Q e f p
section
variable {P : Program} {ops : Array Oper} {hp : List HObj} {fr : List Dat} {Q : Post} {g : Nat} {S : List Bool}
theorem WA.id (h : WA P ops Q g S fr hp) : WA P ops Q g S fr hp := h
theorem WA.nil (hr : Region.ready .any ops S.toArray = []) (h : Q .normal fr hp) : WA P ops Q 0 S fr hp := WA.of fun _ _ _ _ _ hh hf => ⟨hr, fr, hp, h, hh, hf⟩
theorem WA.step {i : Nat} {o : Oper} (ho : ops[i]? = some o) (h : WL P ops (ThenA P ops Q g (S.set i true)) [o] fr hp) {P0 : Nat → Prop} {B : Nat} {w0 w : World} {a : Act} (hh : Hp P0 B w0 hp w) (hf : Fr (Imm P0 B hp) w a fr) :
    wpOp P ops (lift Q P0 B w0) i (wpAny P .any ops (lift Q P0 B w0) g (S.toArray.setIfInBounds i true)) a w := by
  have h1 := h.on hh hf
  unfold wpList at h1
  unfold wpOp
  simp only [ho]
  have he : S.toArray.setIfInBounds i true = (S.set i true).toArray := by simp
  rw [he]
  have hK : ∀ a' w', wpList P ops (lift (ThenA P ops Q g (S.set i true)) P0 B w0) [] a' w' → wpAny P .any ops (lift Q P0 B w0) g (S.set i true).toArray a' w' := fun a' w' hn => by
    obtain ⟨f, p, q, r, s⟩ := (hn : lift (ThenA P ops Q g (S.set i true)) P0 B w0 .normal a' w')
    exact (q : WA P ops Q g (S.set i true) f p).out _ _ _ _ _ r s
  have hQ : ∀ e a' w', e ≠ .normal → lift (ThenA P ops Q g (S.set i true)) P0 B w0 e a' w' → lift Q P0 B w0 e a' w' := fun e a' w' hne ⟨f, p, q, r, s⟩ => by
    cases e with
    | normal => exact absurd rfl hne
    | _ => exact ⟨f, p, q, r, s⟩
  split
  · rename_i hw
    rw [if_pos hw] at h1
    rcases h1 with h1 | ⟨h1, a2, w2, h2⟩
    · exact .inl (wp_mono2 hK hQ h1)
    · exact .inr ⟨h1, a2, w2, hQ _ _ _ (by simp) h2⟩
  · rename_i hw
    rw [if_neg hw] at h1
    exact hK _ _ h1
theorem WA.one {l : List Oper} {i : Nat} {o : Oper} (hr : Region.ready .any l.toArray S.toArray = [i]) (ho : l[i]? = some o) (h : WL P l.toArray (ThenA P l.toArray Q g (S.set i true)) [o] fr hp) : WA P l.toArray Q (g + 1) S fr hp := WA.of fun P0 B w0 w a hh hf => by
  refine ⟨fun h0 => (by rw [hr] at h0; cases h0), fun j hj => ?_⟩
  rw [hr] at hj
  cases List.mem_singleton.1 hj
  exact WA.step (by simpa using ho) h hh hf
theorem ThenA.n (h : WA P ops Q g S fr hp) : ThenA P ops Q g S .normal fr hp := h
end
end Go.Proofs.Ytkedmlandjlogaa
