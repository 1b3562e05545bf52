/-
  Part 23 of the texts that the claims of this seat lean on: walks of the program's functions by contracts over symbolic frames, and plain laws of what they compute. No condition.
-/
import Derived.Ground.Names8Prog
import Derived.Shelf.Spec.SlicesGrow
import Derived.Test.YtjbepoofigokjaaGreatProg
import Derived.Test.YtjbepoofigokjaaGreatVt6
import Derived.Test.YtjbepoofigokjaaGreatVt8
import Derived.Test.YtjbepoofigokjaaGreatVt9
import Derived.Test.YtjbepoofigokjaaGreatVt11
import Derived.Test.YtjbepoofigokjaaGreatVt14
import Derived.Test.YtjbepoofigokjaaGreatVt17
import Derived.Test.YtjbepoofigokjaaGreatVt18
import Derived.Test.YtjbepoofigokjaaGreatVt19
import Derived.Test.YtjbepoofigokjaaGreatVt21
import Derived.Test.YtjbepoofigokjaaGreatVt22
set_option linter.unusedVariables false
set_option linter.unusedSimpArgs false
set_option linter.unusedSectionVars false
namespace Go.Proofs.YtjbepoofigokjaaGreat
open Go.RowKit
section
variable {P : Program} {ops : Array Oper} {hp : List HObj} {fr : List Dat} {Q : Post} {rest : List Oper} {c : Code} {d : Dat} {α : Type} {R : Rel α} {e : TypeId}
theorem WC.freeze {_gR : Good R} {v : Value} {xs : List α} (h : WC P Q c fr (hKnow v (dS (Arr R) xs) :: hp)) : WC P Q c fr (hRow v e R xs :: hp) := WC.of fun P0 B w0 w a hh hf => by
  have hg : (hKnow v (dS (Arr R) xs)).blk = none := rfl
  have hd : (dS (Arr R) xs).rd (Imm P0 B hp) w v := Own.keep hh
  exact h.on (Hp.ghost (l := []) hg hh.drop hd) (hf.mono fun d u hd => d.weak hd fun k hk => (imm_ghost hg [] k).2 (Imm.sub k hk))
theorem WL.use {v : Value} (t : Nat) (ht : fr[t]? = some (dX v)) (hm : hKnow v d ∈ hp) (h : WL P ops Q rest (fr.set t d) hp) : WL P ops Q rest fr hp := WL.of fun P0 B w0 w a hh hf => by
  refine h.on hh ⟨hf.defers, by rw [hf.size, List.length_set], fun t' d' hd' => ?_⟩
  by_cases htt : t = t'
  · subst htt
    rw [List.getElem?_set] at hd'
    simp only [if_true] at hd'
    split at hd'
    · cases hd'
      have h1 : a.tmps.getD t undef = v := hf.rd t _ ht
      rw [h1]
      exact hh.ok _ hm
    · cases hd'
  · rw [List.getElem?_set_ne htt] at hd'
    exact hf.rd t' d' hd'
theorem bare_RV {x : Int × Int} : (dS RV x).Bare := fun _ _ _ _ _ h => h
structure CapH (hp : List HObj) (v : Value) (d : Dat) : Prop where
  out : ∀ {P0 : Nat → Prop} {B : Nat} {w0 w : World}, Hp P0 B w0 hp w → d.rd anyB w v
theorem CapH.map {K V : Type} {kv : K → Value} {vv : V → Value} {R : Rel V} [Good R] {M : List (K × V)} {b m : Nat} {T : TypeId} (h1 : hCell b T 1 false (dX (.map (some m))) ∈ hp) (h2 : hM m kv vv M ∈ hp) (hvv : ∀ I w (y : V), R I w (vv y) y) :
    CapH hp (.pointer (some ⟨b, 0, none⟩)) (dP 1 false (dS (MapR kv R) M)) := CapH.mk fun {P0 B w0 w} hh => by
  obtain ⟨cs, u, c1, c2, c0, c3, c4, c5⟩ := hh.ok _ h1
  have hu : u = .map (some m) := c5
  have hb : w.heap[m]? = some (mapObj _) := hh.ok _ h2
  refine ⟨b, 0, u, rfl, cells_of_obj c1 c2 c0 c3 c4 trivial, m, M.map fun p => vv p.2, hu, trivial, by simp, ?_, fun k q1 q2 => ?_⟩
  · rw [hb]
    congr 2
    unfold encM
    rw [List.zip_map', List.map_map]
    rfl
  · simp only [List.getElem_map]
    exact hvv _ _ _
theorem SY.callO {dst : Option Tmp} {ty : TypeId} {ps : String} {af : Array Edge} {g : Option (Nat × Bool)} {f : FuncId} {caps : List Value} {t : Tmp} {args : Array Operand} {ats : Array TypeId} {ds cds : List Dat} (hF : Fn P f (ds ++ cds) d) (hd : d.Bare) (he : Enters P f) (hc : OpD fr (.tmp t) (dX (.func (.func f) #[] caps.toArray))) (ha : ArgsD fr args.toList ds)
    (hl : caps.length = cds.length) (hcap : ∀ (i : Nat) (v : Value) (d : Dat), caps[i]? = some v → cds[i]? = some d → CapH hp v d) :
    SY P ops hp { dst := dst, op := .call { callee := .value (.tmp t), args := args, argTypes := ats }, type := ty, pos := ps, after := af, guard := g } fr d := SY.mk fun {P0 B w0 w a} hh ho K Q hk => by
  have hv : a.eval (.tmp t) = .func (.func f) #[] caps.toArray := hc.get (by simp [Op.operands, Call.operands]) ho
  have hal := ha.1
  have h1 := hF.out anyB w (args.toList.map a.eval ++ caps) (by simp [hl]; simpa using hal) fun i d hd => by
    by_cases hi : i < ds.length
    · rw [List.getElem?_append_left hi] at hd
      have hi' : i < args.toList.length := by omega
      have h2 := (ha.2 i _ d (List.getElem?_eq_getElem hi') hd).get (by simp only [Op.operands, Call.operands]; simp) ho
      have hi2 : i < args.size := by simpa using hi'
      rw [List.getD_eq_getElem?_getD, List.getElem?_append_left (by simpa using hi2)]
      exact d.weak (by simpa [hi2] using h2) fun _ _ => trivial
    · rw [List.getElem?_append_right (by omega)] at hd
      have hi3 : i - ds.length < caps.length := by rw [hl]; exact (List.getElem?_eq_some_iff.1 hd).1
      have h2 := (hcap _ _ d (List.getElem?_eq_getElem hi3) hd).out hh
      have hlen : (args.toList.map a.eval).length = ds.length := by rw [List.length_map, hal]
      rw [List.getD_eq_getElem?_getD, List.getElem?_append_right (by omega), hlen, List.getElem?_eq_getElem hi3]
      exact h2
  have hvs : args.map a.eval ++ caps.toArray = (args.toList.map a.eval ++ caps).toArray := by apply Array.ext'; simp
  unfold Oper.wp
  have h4 := he (args.map a.eval ++ caps.toArray) w
  have : (execOp a.eval { dst := dst, op := .call { callee := .value (.tmp t), args := args, argTypes := ats }, type := ty, pos := ps, after := af, guard := g }).run P w = .ok (.enter f (args.map a.eval ++ caps.toArray)) w := by
    unfold execOp
    simp only [resolve]
    simp [hv, Deferred.ofValue, invoke, h4]
  rw [this, hvs]
  exact h1.mono fun e w' ⟨v, he, e1, hd'⟩ => by subst he; exact hk v w' e1 (hd _ _ _ _ _ hd')
theorem SY.callO1 {dst : Option Tmp} {ty : TypeId} {ps : String} {af : Array Edge} {g : Option (Nat × Bool)} {f : FuncId} {cv : Value} {t : Tmp} {args : Array Operand} {ats : Array TypeId} {ds : List Dat} {cd : Dat} (hF : Fn P f (ds ++ [cd]) d) (hd : d.Bare) (he : Enters P f) (hc : OpD fr (.tmp t) (dX (.func (.func f) #[] [cv].toArray))) (ha : ArgsD fr args.toList ds) (hcap : CapH hp cv cd) :
    SY P ops hp { dst := dst, op := .call { callee := .value (.tmp t), args := args, argTypes := ats }, type := ty, pos := ps, after := af, guard := g } fr d :=
  SY.callO hF hd he hc ha rfl fun i v d' h1 h2 => by
    match i, h1, h2 with
    | 0, h1, h2 => cases h1; cases h2; exact hcap
end
section
variable {P : Program} {ops : Array Oper} {hp : List HObj} {fr : List Dat} {d : Dat}
variable {dst : Option Tmp} {ty : TypeId} {ps : String} {af : Array Edge} {g : Option (Nat × Bool)} {t k e : TypeId} {z : Value} {K α : Type} [DecidableEq K] {kv : K → Value} {ok : K → Prop} {R : Rel α} {m : List (K × α)}
theorem SY.lookR2 [Good R] {x y : Operand} {v : K} {a0 : α} (T : MapT P t k e z) (H : KeyT P k kv ok) (hx : OpD fr x (dS (MapR kv R) m)) (hy : OpD fr y d) (hd : IsV d (kv v)) (ho : ok v) (hok : ∀ p ∈ m, ok p.1) (hn : (m.map (·.1)).Nodup) (hz : ∀ I w, R I w z a0) :
    SY P ops hp { dst := dst, op := .lookup t x y true, type := ty, pos := ps, after := af, guard := g } fr (dT [dS R ((Go.Proofs.YtjbepoofigokjaaGreat.lookM m v).getD a0), dB (Go.Proofs.YtjbepoofigokjaaGreat.lookM m v).isSome]) := SY.val fun {I w a} hon => by
  obtain ⟨b, us, h1, h2, h3, h4, h5⟩ := hx.get (by simp [Op.operands]) hon
  have h6 := hd.is _ _ _ (hy.get (by simp [Op.operands]) hon)
  have hkeys : ((m.map (·.1)).zip us).map (·.1) = m.map (·.1) := by rw [List.map_fst_zip]; simp [h3]
  refine ⟨.tuple #[((Go.Proofs.YtjbepoofigokjaaGreat.lookM ((m.map (·.1)).zip us) v).map id).getD z, .bool (Go.Proofs.YtjbepoofigokjaaGreat.lookM ((m.map (·.1)).zip us) v).isSome], ?_, [((Go.Proofs.YtjbepoofigokjaaGreat.lookM ((m.map (·.1)).zip us) v).map id).getD z, .bool (Go.Proofs.YtjbepoofigokjaaGreat.lookM ((m.map (·.1)).zip us) v).isSome], rfl, rfl, fun i e x he hx => ?_⟩
  · unfold execOp
    simp only [h1, h6, Sem.run_bind, run_lookup (vv := id) T H (fun (p : K × Value) (hp : p ∈ (m.map (·.1)).zip us) => by
      have : p.1 ∈ m.map (·.1) := by rw [← hkeys]; exact List.mem_map_of_mem hp
      obtain ⟨q, hq, he⟩ := List.mem_map.1 this
      rw [← he]; exact hok q hq) (by rw [hkeys]; exact hn) ho h4 true, Result.andThen_ok, Sem.run_pure]
    rfl
  · rcases lookM_zip h3 v with ⟨e1, e2⟩ | ⟨j, j1, j2, e1, e2⟩
    · match i, he, hx with
      | 0, he, hx => cases he; cases hx; rw [e1, e2]; exact hz I w
      | 1, he, hx => cases he; cases hx; rw [e1, e2]; rfl
    · match i, he, hx with
      | 0, he, hx => cases he; cases hx; rw [e1, e2]; exact h5 j j1 j2
      | 1, he, hx => cases he; cases hx; rw [e1, e2]; rfl
theorem SY.lookR2n [Good R] {x y : Operand} {v : K} {a0 : α} (T : MapT P t k e z) (H : KeyT P k kv ok) (hx : OpD fr x (dS (MapR kv R) m)) (hy : OpD fr y d) (hd : IsV d (kv v)) (ho : ok v) (hok : ∀ p ∈ m, ok p.1) (hn : (m.map (·.1)).Nodup) (hz : ∀ I w, R I w z a0) (hl : Go.Proofs.YtjbepoofigokjaaGreat.lookM m v = none) :
    SY P ops hp { dst := dst, op := .lookup t x y true, type := ty, pos := ps, after := af, guard := g } fr (dT [dS R a0, dB false]) := by
  have := SY.lookR2 (ops := ops) (hp := hp) (dst := dst) (ty := ty) (ps := ps) (af := af) (g := g) T H hx hy hd ho hok hn hz
  rwa [hl] at this
theorem SY.lookR2s [Good R] {x y : Operand} {v : K} {a0 u : α} (T : MapT P t k e z) (H : KeyT P k kv ok) (hx : OpD fr x (dS (MapR kv R) m)) (hy : OpD fr y d) (hd : IsV d (kv v)) (ho : ok v) (hok : ∀ p ∈ m, ok p.1) (hn : (m.map (·.1)).Nodup) (hz : ∀ I w, R I w z a0) (hl : Go.Proofs.YtjbepoofigokjaaGreat.lookM m v = some u) :
    SY P ops hp { dst := dst, op := .lookup t x y true, type := ty, pos := ps, after := af, guard := g } fr (dT [dS R u, dB true]) := by
  have := SY.lookR2 (ops := ops) (hp := hp) (dst := dst) (ty := ty) (ps := ps) (af := af) (g := g) T H hx hy hd ho hok hn hz
  rwa [hl] at this
end
section
variable {P : Program} {ops : Array Oper} {hp : List HObj} {fr : List Dat} {d : Dat}
variable {dst : Option Tmp} {ty : TypeId} {ps : String} {af : Array Edge} {g : Option (Nat × Bool)} {t k e : TypeId} {z : Value} {K : Type} [DecidableEq K] {kv : K → Value} {ok : K → Prop} {m : List (K × Int)} {b : Nat}
abbrev vvN (n : Int) : Value := .int .i64 n
theorem SY.lookN {x y : Operand} {v : K} {u : Int} (T : MapT P t k e z) (H : KeyT P k kv ok) (hx : OpD fr x (dX (.map (some b)))) (hm : hM b kv vvN m ∈ hp) (hy : OpD fr y d) (hd : IsV d (kv v)) (ho : ok v) (hok : ∀ p ∈ m, ok p.1) (hn : (m.map (·.1)).Nodup) (hl : Go.Proofs.YtjbepoofigokjaaGreat.lookM m v = some u) :
    SY P ops hp { dst := dst, op := .lookup t x y false, type := ty, pos := ps, after := af, guard := g } fr (dI u) := by
  have := SY.lookM (ops := ops) (dst := dst) (ty := ty) (ps := ps) (af := af) (g := g) T H hx hm hy hd ho hok hn
  rwa [hl] at this
theorem SY.lookN2s {x y : Operand} {v : K} {u : Int} (T : MapT P t k e z) (H : KeyT P k kv ok) (hx : OpD fr x (dX (.map (some b)))) (hm : hM b kv vvN m ∈ hp) (hy : OpD fr y d) (hd : IsV d (kv v)) (ho : ok v) (hok : ∀ p ∈ m, ok p.1) (hn : (m.map (·.1)).Nodup) (hl : Go.Proofs.YtjbepoofigokjaaGreat.lookM m v = some u) :
    SY P ops hp { dst := dst, op := .lookup t x y true, type := ty, pos := ps, after := af, guard := g } fr (dT [dI u, dB true]) := by
  have := SY.lookM2 (ops := ops) (dst := dst) (ty := ty) (ps := ps) (af := af) (g := g) T H hx hm hy hd ho hok hn
  rwa [hl] at this
theorem SY.lookN2n {x y : Operand} {v : K} (T : MapT P t k e z) (H : KeyT P k kv ok) (hx : OpD fr x (dX (.map (some b)))) (hm : hM b kv vvN m ∈ hp) (hy : OpD fr y d) (hd : IsV d (kv v)) (ho : ok v) (hok : ∀ p ∈ m, ok p.1) (hn : (m.map (·.1)).Nodup) (hl : Go.Proofs.YtjbepoofigokjaaGreat.lookM m v = none) :
    SY P ops hp { dst := dst, op := .lookup t x y true, type := ty, pos := ps, after := af, guard := g } fr (dT [dX z, dB false]) := by
  have := SY.lookM2 (ops := ops) (dst := dst) (ty := ty) (ps := ps) (af := af) (g := g) T H hx hm hy hd ho hok hn
  rwa [hl] at this
end
end Go.Proofs.YtjbepoofigokjaaGreat
namespace Go.Proofs.YtjbepoofigokjaaGreat
open Go.RowKit
section
variable {P : Program} {ops : Array Oper} {hp : List HObj} {fr : List Dat} {dst : Option Tmp} {ty : TypeId} {ps : String} {af : Array Edge} {t e : TypeId} {z : Value} {bytes : Nat} {ag : Bool}
theorem SW.app1 {s y : Operand} (E : ElT P t e 1 z bytes ag) {α : Type} {R : Rel α} {_gR : Good R} {v : Value} {xs ys : List α} (hs : OpD fr s (dX v)) (hy : OpD fr y (dS (Arr R) ys)) (hby : 0 < bytes)
    (hlen : (xs.length + ys.length) * bytes ≤ 140737488355328) :
    SW P ops (hRow v e R xs :: hp) (fun v' : Value => hRow v' e R (xs ++ ys) :: hp) (fun v' => dX v') { dst := dst, op := .call { callee := .builtin .append, args := #[s, y], argTypes := #[t, t] }, type := ty, pos := ps, after := af, guard := none } fr := ⟨rfl, fun {P0 B w0 w a} hh ho K Q hk => by
  obtain ⟨ad, cap, hv, c1, c2, c3⟩ := (hy.get (by simp [Op.operands, Call.operands]) ho : Arr R _ _ _ _)
  have hm : xs.length + ys.length ≤ maxLen := by
    have : (xs.length + ys.length) * 1 ≤ (xs.length + ys.length) * bytes := Nat.mul_le_mul_left _ hby
    simp only [maxLen]; omega
  have hse : a.eval s = v := hs.get (by simp [Op.operands, Call.operands]) ho
  cases ad with
  | none =>
    have hy0 : ys = [] := by
      cases ys with
      | nil => rfl
      | cons y ys => obtain ⟨_, _, _, _, _, hc, _⟩ := c3 0 (by simp); cases hc
    subst hy0
    obtain ⟨us, _, hown, _⟩ := hh.ok (hRow v e R xs) (by simp)
    have hrun : (execOp a.eval { dst := dst, op := .call { callee := .builtin .append, args := #[s, y], argTypes := #[t, t] }, type := ty, pos := ps, after := af, guard := none }).run P w = .ok (.value v) w := by
      have hr := run_append_none (P := P) (ty := ty) (w := w) E hown cap
      have hv' : a.eval y = .slice none 0 cap := hv
      unfold execOp
      simp only [resolve, invoke, builtin, List.map_toArray, List.map_cons, List.map_nil, hse, hv', Sem.run_bind, Sem.run_pure, Result.andThen_ok]
      rw [hr]
      simp
    unfold Oper.wp
    rw [hrun]
    have := hk v v w
    simp only [List.append_nil] at this
    exact this hh (fun _ _ h => h) rfl
  | some ad =>
    have hch : ∀ k : Nat, ∃ u : Value, ∀ h : k < ys.length, w.cell? (ad.add k) = some u ∧ u.oneCell' = true ∧ R (Imm P0 B (hRow v e R xs :: hp)) w u ys[k] := fun k => by
      by_cases hk : k < ys.length
      · obtain ⟨u, b, off, r1, r2, r3, r4, r5⟩ := c3 k hk
        cases r3
        exact ⟨u, fun _ => ⟨by rw [Addr.add_lit]; exact r5, r2, r1⟩⟩
      · exact ⟨undef, fun h => absurd h hk⟩
    obtain ⟨f, hfch⟩ := Classical.axiomOfChoice hch
    obtain ⟨v', w', hr, r1, r2, r3⟩ := app1_step (ty := ty) E hh (ad := ad) (c := cap) (ys := ys) (news := (List.range ys.length).map f) (by simp) (fun j u hu => by
        obtain ⟨hjl, hju⟩ := List.getElem?_eq_some_iff.1 hu
        simp at hjl hju
        subst hju
        exact (hfch j hjl).1) (fun u hu => by
        simp only [List.mem_map, List.mem_range] at hu
        obtain ⟨j, hj, rfl⟩ := hu
        exact (hfch j hj).2.1) (fun k h1 h2 => by
        simp only [List.getElem_map, List.getElem_range]
        exact (hfch k h2).2.2) hlen hm
    have hrun : (execOp a.eval { dst := dst, op := .call { callee := .builtin .append, args := #[s, y], argTypes := #[t, t] }, type := ty, pos := ps, after := af, guard := none }).run P w = .ok (.value v') w' := by
      unfold execOp
      simp only [resolve, invoke, builtin, List.map_toArray, List.map_cons, List.map_nil, hse, hv, Sem.run_bind, Sem.run_pure, Result.andThen_ok, hr]
    unfold Oper.wp
    rw [hrun]
    exact hk v' v' w' r1 (fun d u hd => Hp.written (o := hRow v e R xs) (o' := hRow v' e R (xs ++ ys)) r2 r3 hd) rfl⟩
end
end Go.Proofs.YtjbepoofigokjaaGreat
namespace Go.Proofs.YtjbepoofigokjaaGreat
open Go.RowKit
def R2 {α β : Type} (R : Rel α) (S : Rel β) : Rel (α × β) := fun P w v x => ∃ u u', v = .agg #[u, u'] ∧ u.oneCell' = true ∧ u'.oneCell' = true ∧ R P w u x.1 ∧ S P w u' x.2
instance {α β : Type} (R : Rel α) (S : Rel β) [Good R] [Good S] : Good (R2 R S) where
  weak := fun ⟨u, u', h1, h0, h0', h2, h3⟩ q => ⟨u, u', h1, h0, h0', Good.weak h2 q, Good.weak h3 q⟩
  move := fun ⟨u, u', h1, h0, h0', h2, h3⟩ q => ⟨u, u', h1, h0, h0', Good.move h2 q, Good.move h3 q⟩
  bound := fun ⟨u, u', h1, h0, h0', h2, h3⟩ => ⟨u, u', h1, h0, h0', Good.bound h2, Good.bound h3⟩
abbrev Col : Rel (List (Int × Int) × List (Int × Int)) := R2 Verts Verts
abbrev Cols : Rel (List (List (Int × Int) × List (Int × Int))) := ArrK 2 Col
abbrev Cl := List (Int × Int) × List (Int × Int)
theorem shape_P {α β : Type} {R : Rel α} {S : Rel β} [Good R] [Good S] {x : α × β} : (dS (R2 R S) x).Shape 2 true := fun _ _ _ h => by
  obtain ⟨u, u', rfl, h0, h0', _, _⟩ := h
  exact ⟨[u, u'], rfl, by omega, fun c hc => by
    simp only [List.mem_cons, List.not_mem_nil, or_false] at hc
    rcases hc with rfl | rfl <;> assumption, rfl, rfl⟩
structure ColT (P : Program) (T : TypeId) : Prop where
  fld0 : ∀ b off w, (Instr.fieldAt T (.pointer (some ⟨b, off, none⟩)) 0).run P w = .ok (.pointer (some ⟨b, off + 0, none⟩)) w
  fld1 : ∀ b off w, (Instr.fieldAt T (.pointer (some ⟨b, off, none⟩)) 1).run P w = .ok (.pointer (some ⟨b, off + 1, none⟩)) w
  mkp : ∀ a n c a' n' c' w, (Instr.build T #[(0, .slice a n c), (1, .slice a' n' c')]).run P w = .ok (.agg #[.slice a n c, .slice a' n' c']) w
theorem colT : ColT Tryz.prog 36 := by
  constructor
  · intro b off w; go_simp
  · intro b off w; go_simp
  · intro a n c a' n' c' w; go_simp
theorem elCo : ElT Tryz.prog 27 36 2 (.agg #[.slice none 0 0, .slice none 0 0]) 48 true := ⟨Tryz.underlying27, by kernel_rfl, Tryz.isAgg36, rfl⟩
theorem tyCo : TyI Tryz.prog 36 2 true := ⟨by kernel_rfl, Tryz.isAgg36⟩
theorem tyCos : TyI Tryz.prog 27 1 false := ⟨by kernel_rfl, Tryz.isAgg27⟩
theorem tzCo : TyZ Tryz.prog 36 (.agg #[.slice none 0 0, .slice none 0 0]) := ⟨by kernel_rfl⟩
section
variable {P : Program} {ops : Array Oper} {hp : List HObj} {fr : List Dat} {d : Dat} {Q : Post} {rest : List Oper}
variable {dst : Option Tmp} {ty : TypeId} {ps : String} {af : Array Edge} {g : Option (Nat × Bool)} {T : TypeId} (V : ColT P T)
include V
theorem SY.fldP0 {α β : Type} {R : Rel α} {S : Rel β} {_gR : Good R} {_gS : Good S} {x : Operand} {p : α × β} (hx : OpD fr x (dP 2 true (dS (R2 R S) p))) : SY P ops hp { dst := dst, op := .fieldAddr T x 0, type := ty, pos := ps, after := af, guard := g } fr (dP 1 false (dS R p.1)) := SY.val fun {I w a} ho => by
  obtain ⟨b, off, u, h1, ⟨hb, cs, k1, k0, k2, k3, k4⟩, v0, v1, hu, q0, q1, q2, q3⟩ := hx.get (by simp [Op.operands]) ho
  simp only [if_true] at k4
  rw [k4] at hu
  have hcs : cs = [v0, v1] := by injection hu with hu; exact List.toArray_inj hu
  subst hcs
  refine ⟨_, ?_, b, off + 0, v0, rfl, ⟨hb, [v0], rfl, Nat.one_pos, by simp [q0], fun j c hc => ?_, rfl⟩, q2⟩
  · unfold execOp
    simp only [h1, Sem.run_bind, V.fld0, Result.andThen_ok, Sem.run_pure]
  · have hj : j = 0 := by have := (List.getElem?_eq_some_iff.1 hc).1; simpa using this
    subst hj
    cases hc
    exact k3 0 _ rfl
theorem SY.fldP1 {α β : Type} {R : Rel α} {S : Rel β} {_gR : Good R} {_gS : Good S} {x : Operand} {p : α × β} (hx : OpD fr x (dP 2 true (dS (R2 R S) p))) : SY P ops hp { dst := dst, op := .fieldAddr T x 1, type := ty, pos := ps, after := af, guard := g } fr (dP 1 false (dS S p.2)) := SY.val fun {I w a} ho => by
  obtain ⟨b, off, u, h1, ⟨hb, cs, k1, k0, k2, k3, k4⟩, v0, v1, hu, q0, q1, q2, q3⟩ := hx.get (by simp [Op.operands]) ho
  simp only [if_true] at k4
  rw [k4] at hu
  have hcs : cs = [v0, v1] := by injection hu with hu; exact List.toArray_inj hu
  subst hcs
  refine ⟨_, ?_, b, off + 1, v1, rfl, ⟨hb, [v1], rfl, Nat.one_pos, by simp [q1], fun j c hc => ?_, rfl⟩, q3⟩
  · unfold execOp
    simp only [h1, Sem.run_bind, V.fld1, Result.andThen_ok, Sem.run_pure]
  · have hj : j = 0 := by have := (List.getElem?_eq_some_iff.1 hc).1; simpa using this
    subst hj
    cases hc
    exact k3 1 _ rfl
theorem SY.mkP {x y : Operand} {xs ys : List (Int × Int)} (hx : OpD fr x (dS Verts xs)) (hy : OpD fr y (dS Verts ys)) : SY P ops hp { dst := dst, op := .build T #[(0, x), (1, y)], type := ty, pos := ps, after := af, guard := g } fr (dS Col (xs, ys)) := SY.val fun {I w a} ho => by
  have h1 : Verts I w (a.eval x) xs := hx.get (by simp [Op.operands]) ho
  have h2 : Verts I w (a.eval y) ys := hy.get (by simp [Op.operands]) ho
  have h1' := h1
  have h2' := h2
  obtain ⟨ad, c, hv, _⟩ := h1'
  obtain ⟨ad', c', hv', _⟩ := h2'
  rw [hv] at h1
  rw [hv'] at h2
  refine ⟨.agg #[.slice ad xs.length c, .slice ad' ys.length c'], ?_, _, _, rfl, rfl, rfl, h1, h2⟩
  unfold execOp
  simp only [List.map_toArray, List.map_cons, List.map_nil, hv, hv', Sem.run_bind, V.mkp, Result.andThen_ok, Sem.run_pure]
end
theorem results_cellC3 {P : Program} {fn : Func} {t t2 t3 : Tmp} {T : TypeId} {n : Nat} {agg : Bool} (T' : TyI P T n agg) (hr : fn.results = #[.cell t T, .tmp t2, .tmp t3]) {I : Nat → Prop} {w : World} {tmps : Array Value} {b off : Nat} {u : Value} (hp : tmps.getD t undef = .pointer (some ⟨b, off, none⟩)) (h : Cells I w b off n agg u) : (results fn tmps).run P w = .ok (.tuple #[u, tmps.getD t2 undef, tmps.getD t3 undef]) w := by
  have h1 := run_loadVarC T' h
  have hp' : tmps[t]?.getD undef = .pointer (some ⟨b, off, none⟩) := by simpa using hp
  simp [results, hr, hp', asAddr, h1]
section
variable {P : Program} {hp : List HObj} {d : Dat}
def finC3 (t u v : Nat) (n : Nat) (agg : Bool) (r s q : Dat) : Post := fun e fr hp => (match e with | .normal | .ret => True | _ => False) ∧ (∃ d, fr[t]? = some (dP n agg d) ∧ FinD hp d r) ∧ (∃ d, fr[u]? = some d ∧ FinD hp d s) ∧ ∃ d, fr[v]? = some d ∧ FinD hp d q
theorem Fn.introC3 {f : FuncId} {fn : Func} {c : Code} {args : List Dat} {r s q : Dat} {t t2 t3 : Tmp} {T : TypeId} {n : Nat} {agg : Bool} (T' : TyI P T n agg) (hf : P.funcs[f]? = some fn) (hb : fn.body = some c) (hr : fn.results = #[.cell t T, .tmp t2, .tmp t3])
    (h : WC P (finC3 t t2 t3 n agg r s q) c (args ++ List.replicate (fn.ntmps - args.length) (dX undef)) []) : Fn P f args (dT [r, s, q]) :=
  Fn.intro hf hb (fun e fr hp k => by
    obtain ⟨he, ⟨d, hd, hfin⟩, ⟨d', hd', hfin'⟩, d2, hd2, hfin2⟩ := k
    refine ⟨by cases e <;> simp_all, fun {P0 B w0 w a} hh hf' => ?_⟩
    obtain ⟨b, off, u, h1, h2, h3⟩ := hf'.rd t _ hd
    refine ⟨_, results_cellC3 T' hr h1 h2, [u, a.tmps.getD t2 undef, a.tmps.getD t3 undef], rfl, rfl, fun i e x he hx => ?_⟩
    match i, he, hx with
    | 0, he, hx => cases he; cases hx; exact hfin.out hh h3
    | 1, he, hx => cases he; cases hx; exact hfin'.out hh (hf'.rd t2 d' hd')
    | 2, he, hx => cases he; cases hx; exact hfin2.out hh (hf'.rd t3 d2 hd2)) h
end
end Go.Proofs.YtjbepoofigokjaaGreat
namespace Go.Proofs.YtjbepoofigokjaaGreat
def abvC (l : Cx) (s : List Vx) : Nat := (l.filter fun f => insideV s f).length
def atK (l : List Cl) (x : Cl) : Nat → Nat
  | 0 => 0
  | k + 1 => if cmpL x.1 (l.getD k ([], [])).1 < 0 then atK l x k else k + 1
theorem atK_le (l : List Cl) (x : Cl) : ∀ k, atK l x k ≤ k
  | 0 => Nat.le_refl _
  | k + 1 => by unfold atK; split; exact Nat.le_succ_of_le (atK_le l x k); exact Nat.le_refl _
def putK (l : List Cl) (x : Cl) : List Cl := l.take (atK l x l.length) ++ [x] ++ l.drop (atK l x l.length)
def rowK (l : Cx) (f : List Vx) (t : Cx) : List Cl := (t.filter fun s => decide (abvC l s = 1)).map fun s => (s, f)
def offK (l : Cx) (f : List Vx) : List Cl := if f.length = 1 then [] else rowK l f (subsV (f.length - 1) f)
def prK (l m : Cx) : List Cl := (m.flatMap (offK l)).foldl putK []
def pairsC (l : Cx) : List Cl := prK l l
def leftC (l : Cx) (x : Cl) : Cx := maxC ((l.filter fun f => decide (f ≠ x.2)) ++ (subsV (x.2.length - 1) x.2).filter fun t => decide (t ≠ x.1))
end Go.Proofs.YtjbepoofigokjaaGreat
namespace Go.Proofs.YtjbepoofigokjaaGreat
open Go.RowKit
set_option linter.unusedSimpArgs false

set_option maxHeartbeats 2000000
set_option maxRecDepth 100000
theorem sameK_c (x y : Cl) : Fn Tryz.prog 46 [dS Col x, dS Col y] (dB (decide (x = y))) := by
  (refine Fn.intro1 Tryz.func46 rfl rfl ?_; simp only [Tryz.ntmps46, List.length_cons, List.length_nil, Nat.reduceAdd, Nat.reduceSub, List.replicate_succ, List.replicate_zero, List.cons_append, List.nil_append])
  have c1 := same_c x.1 y.1
  have c2 := same_c x.2 y.2
  by_cases h1 : x.1 = y.1
  · rw [decide_eq_true (cmpL_eq.2 h1)] at c1
    by_cases h2 : x.2 = y.2
    · rw [decide_eq_true (cmpL_eq.2 h2)] at c2
      ((repeat' (first | (apply WL.opN; exact yF; dsimp only [setD, z0, z1]) | refine WL.nil ?_ | refine WC.seqK fun Kx hK => ?_ | (refine hK _ _ ?_; clear hK) | refine WC.region ?_ | (apply WL.opG; (focus (first | exact wN | (apply SYG.yes; (exact wY); ((first | (apply SY.call (c1) Tryz.call86; exact ArgsD.cons (OpD.t rfl) (ArgsD.cons (OpD.t rfl) (ArgsD.nil))) | (apply SY.call (c2) Tryz.call86; exact ArgsD.cons (OpD.t rfl) (ArgsD.cons (OpD.t rfl) (ArgsD.nil))) | (apply SY.load; (exact tD); (exact oD)) | (apply SY.fldP0 colT; exact OpD.t rfl) | (apply SY.fldP1 colT; exact OpD.t rfl) | (apply SY.pickT; (exact oD); (with_reducible rfl); (exact oD)) | (apply SY.box; (exact oD); (exact hD)) | fail); all_goals infer_instance)))); dsimp only [setD, z0, z1]) | refine WC.ret ?_)); all_goals (first | ((repeat clear hK); (repeat clear Kx))))
      (refine ⟨trivial, _, rfl, ?_⟩; refine FinD.b ?_)
      rw [decide_eq_true (Prod.ext h1 h2)]
    · rw [decide_eq_false (fun h => h2 (cmpL_eq.1 h))] at c2
      ((repeat' (first | (apply WL.opN; exact yF; dsimp only [setD, z0, z1]) | refine WL.nil ?_ | refine WC.seqK fun Kx hK => ?_ | (refine hK _ _ ?_; clear hK) | refine WC.region ?_ | (apply WL.opG; (focus (first | exact wN | (apply SYG.yes; (exact wY); ((first | (apply SY.call (c1) Tryz.call86; exact ArgsD.cons (OpD.t rfl) (ArgsD.cons (OpD.t rfl) (ArgsD.nil))) | (apply SY.call (c2) Tryz.call86; exact ArgsD.cons (OpD.t rfl) (ArgsD.cons (OpD.t rfl) (ArgsD.nil))) | (apply SY.load; (exact tD); (exact oD)) | (apply SY.fldP0 colT; exact OpD.t rfl) | (apply SY.fldP1 colT; exact OpD.t rfl) | (apply SY.pickT; (exact oD); (with_reducible rfl); (exact oD)) | (apply SY.box; (exact oD); (exact hD)) | fail); all_goals infer_instance)))); dsimp only [setD, z0, z1]) | refine WC.ret ?_)); all_goals (first | ((repeat clear hK); (repeat clear Kx))))
      (refine ⟨trivial, _, rfl, ?_⟩; refine FinD.b ?_)
      rw [decide_eq_false (fun h => h2 (by rw [h]))]
  · rw [decide_eq_false (fun h => h1 (cmpL_eq.1 h))] at c1
    ((repeat' (first | (apply WL.opN; exact yF; dsimp only [setD, z0, z1]) | refine WL.nil ?_ | refine WC.seqK fun Kx hK => ?_ | (refine hK _ _ ?_; clear hK) | refine WC.region ?_ | (apply WL.opG; (focus (first | exact wN | (apply SYG.yes; (exact wY); ((first | (apply SY.call (c1) Tryz.call86; exact ArgsD.cons (OpD.t rfl) (ArgsD.cons (OpD.t rfl) (ArgsD.nil))) | (apply SY.call (c2) Tryz.call86; exact ArgsD.cons (OpD.t rfl) (ArgsD.cons (OpD.t rfl) (ArgsD.nil))) | (apply SY.fldP0 colT; exact OpD.t rfl) | (apply SY.fldP1 colT; exact OpD.t rfl) | (apply SY.pickF; (exact oD); (with_reducible rfl); (exact oD)) | (apply SY.box; (exact oD); (exact hD)) | fail); all_goals infer_instance)))); dsimp only [setD, z0, z1]) | refine WC.ret ?_)); all_goals (first | ((repeat clear hK); (repeat clear Kx))))
    (refine ⟨trivial, _, rfl, ?_⟩; refine FinD.b ?_)
    rw [decide_eq_false (fun h => h1 (by rw [h]))]
theorem sameKs_c (l m : List Cl) : Fn Tryz.prog 15 [dS Cols l, dS Cols m] (dB (decide (l = m))) := by
  (refine Fn.intro1 Tryz.func15 rfl rfl ?_; simp only [Tryz.ntmps15, List.length_cons, List.length_nil, Nat.reduceAdd, Nat.reduceSub, List.replicate_succ, List.replicate_zero, List.cons_append, List.nil_append])
  by_cases hl : l.length = m.length
  · (repeat' (first | ((first | apply WL.opN | apply WD.opN); exact yF; dsimp only [setD, z0, z1]) | refine WL.nil ?_ | refine WC.seqK fun Kx hK => ?_ | (refine hK _ _ ?_; clear hK) | refine WC.region ?_ | ((first | apply WL.opN | apply WD.opN); (focus ((first | ((first | apply SY.move | apply SY.assign | apply SY.lss | apply SY.neq | apply SY.not) <;> (exact oD)) | (apply SY.len; (exact oD); (exact nD); (exact uD)) | fail); all_goals infer_instance)); dsimp only [setD, z0, z1]) | (apply WC.condN; (exact oD); all_goals (intro h; try exact xD)) | refine WC.skip ?_ | refine WC.block ?_))
    all_goals first | (exfalso; omega) | skip
    (first | refine WC.know (t := 0) rfl le_K fun hl0 => ?_ | refine WC.know (t := 0) rfl le_A fun hl0 => ?_ | refine WC.know (t := 0) rfl le_C fun hl0 => ?_); simp only [maxLen] at hl0
    (refine WC.loopU (X := Nat) (fun k => [(5, dI (k : Int)), (4, dA), (11, dA), (12, dA), (13, dA), (14, dA), (15, dA), (16, dA), (17, dA), (18, dA), (19, dA), (20, dA), (21, dA), (22, dA), (23, dA), (24, dA), (25, dA), (26, dA)]) (fun k => []) (fun k => l.length - k) (fun k => k ≤ l.length ∧ l.take k = m.take k) 0 ?start ?frame0 ?objs0 ?round)
    case start => exact ⟨Nat.zero_le _, rfl⟩
    case frame0 => ((try dsimp only [upds, z0, z1]); repeat (first | exact LeF.nil | refine LeF.co (k := ?_)))
    case objs0 => rfl
    case round =>
      rintro k ⟨h1, h2⟩
      dsimp only [upds, z0, z1]
      by_cases hk : k < l.length
      · have hkm : k < m.length := by omega
        have c1 := sameK_c l[k] m[k]
        ((repeat' (first | ((first | apply WL.opN | apply WD.opN); exact yF; dsimp only [setD, z0, z1]) | refine WL.nil ?_ | refine WD.nil ?_ | refine WC.seqK fun Kx hK => ?_ | (refine hK _ _ ?_; clear hK) | refine WC.region ?_ | (apply WC.draw; kernel_rfl; kernel_rfl) | ((first | apply WL.opN | apply WD.opN); (focus ((first | (apply SY.call (c1) Tryz.call46; (exact aD)) | ((first | apply SY.move | apply SY.assign | apply SY.lss | apply SY.neq | apply SY.not) <;> (exact oD)) | ((first | apply SY.add) <;> first | exact oD | omega) | (apply SY.len; (exact oD); (exact nD); (exact uD)) | (apply SY.ixK; (exact eD); (exact oD); (exact oD); exact kD) | fail); all_goals infer_instance)); dsimp only [setD, z0, z1]) | (apply WC.condD; (exact oD); all_goals (intro h; try exact xD)) | (apply WC.condN; (exact oD); all_goals (intro h; try exact xD)) | refine WC.skip ?_ | refine WC.ret ?_ | refine WC.block ?_ | refine ThenD.n ?_ | refine ThenD.r ?_ | refine InBlockD.r ?_)); all_goals (first | ((repeat clear hK); (repeat clear Kx))))
        · (refine ⟨trivial, _, rfl, ?_⟩; refine FinD.b ?_)
          rw [decide_eq_false (fun hh => h (by simp only [hh]))]
        · (refine ⟨k + 1, ?_, by first | omega | (simp only; omega), rfl, ?_⟩; rotate_left; ((try dsimp only [upds, z0, z1]); repeat (first | exact LeF.nil | refine LeF.co (k := ?_))); (try dsimp only))
          exact ⟨by omega, by rw [take_snoc' hk, take_snoc' hkm, h2, h]⟩
      · rw [List.take_of_length_le (by omega), List.take_of_length_le (by omega)] at h2
        ((repeat' (first | ((first | apply WL.opN | apply WD.opN); exact yF; dsimp only [setD, z0, z1]) | refine WL.nil ?_ | refine WC.seqK fun Kx hK => ?_ | (refine hK _ _ ?_; clear hK) | (refine Kont.skip ?_; clear hK) | refine WC.region ?_ | ((first | apply WL.opN | apply WD.opN); (focus ((first | ((first | apply SY.move | apply SY.assign | apply SY.lss | apply SY.neq | apply SY.not) <;> (exact oD)) | (apply SY.len; (exact oD); (exact nD); (exact uD)) | fail); all_goals infer_instance)); dsimp only [setD, z0, z1]) | (apply WC.condD; (exact oD); all_goals (intro h; try exact xD)) | refine WC.ret ?_ | refine WC.exit ?_)); all_goals (first | ((repeat clear hK); (repeat clear Kx))))
        (refine ⟨trivial, _, rfl, ?_⟩; refine FinD.b ?_)
        rw [decide_eq_true h2]
  · ((repeat' (first | ((first | apply WL.opN | apply WD.opN); exact yF; dsimp only [setD, z0, z1]) | refine WL.nil ?_ | refine WC.seqK fun Kx hK => ?_ | (refine hK _ _ ?_; clear hK) | refine WC.region ?_ | ((first | apply WL.opN | apply WD.opN); (focus ((first | ((first | apply SY.move | apply SY.assign | apply SY.lss | apply SY.neq | apply SY.not) <;> (exact oD)) | (apply SY.len; (exact oD); (exact nD); (exact uD)) | fail); all_goals infer_instance)); dsimp only [setD, z0, z1]) | (apply WC.condN; (exact oD); all_goals (intro h; try exact xD)) | refine WC.ret ?_ | refine ThenD.r ?_)); all_goals (first | ((repeat clear hK); (repeat clear Kx))))
    all_goals first | (exfalso; omega) | skip
    (refine ⟨trivial, _, rfl, ?_⟩; refine FinD.b ?_)
    rw [decide_eq_false (fun h => hl (by rw [h]))]
end Go.Proofs.YtjbepoofigokjaaGreat
namespace Go.Proofs.YtjbepoofigokjaaGreat
def sgnC (s : List Vx) : Int := 2 * ((s.length : Int).tmod 2) - 1
def sumC (l : Cx) : Int := (l.map sgnC).sum
theorem sum_same {l : Cx} {k : Nat} (h : ∀ s ∈ l, s.length = k) : sumC l = (2 * ((k : Int) % 2) - 1) * l.length := by
  induction l with
  | nil => simp [sumC]
  | cons s l ih =>
    have h1 := ih fun x hx => h x (List.mem_cons_of_mem _ hx)
    have h2 := h s (by simp)
    have h3 : sumC (s :: l) = sgnC s + sumC l := by unfold sumC; simp
    have h4 : sgnC s = 2 * ((k : Int) % 2) - 1 := by unfold sgnC; rw [h2, Int.tmod_eq_emod_of_nonneg (by omega)]
    rw [h3, h1, h4, List.length_cons, Int.natCast_add, Int.mul_add]
    omega
theorem sum_up (l : Cx) : ∀ k, sumC (upC l k) = eulS l k
  | 0 => rfl
  | k + 1 => by
    have h1 := sum_up l k
    have h2 : sumC (allC l (k + 1)) = (2 * (((k + 1 : Nat) : Int) % 2) - 1) * (allC l (k + 1)).length := sum_same fun s hs => by
      obtain ⟨f, _, hx⟩ := allC_mem.1 hs
      exact ((subsV_mem _ _ _).1 hx).2
    have h3 : sumC (upC l (k + 1)) = sumC (upC l k) + sumC (allC l (k + 1)) := by
      show sumC (upC l k ++ allC l (k + 1)) = _
      unfold sumC; rw [List.map_append, List.sum_append]
    rw [h3, h1, h2]
    show _ = if (k + 1) % 2 = 1 then eulS l k + ((allC l (k + 1)).length : Int) else eulS l k - ((allC l (k + 1)).length : Int)
    by_cases h4 : (k + 1) % 2 = 1
    · have : ((k + 1 : Nat) : Int) % 2 = 1 := by omega
      rw [if_pos h4, this]; omega
    · have : ((k + 1 : Nat) : Int) % 2 = 0 := by omega
      rw [if_neg h4, this]; omega
theorem Gd.sum {l : Cx} (h : Gd l) : sumC (upC l 5) = eulS l 8 := by
  rw [sum_up]
  have h6 := h.none (k := 6) (by omega)
  have h7 := h.none (k := 7) (by omega)
  have h8 := h.none (k := 8) (by omega)
  have e : ∀ k, allC l (k + 1) = [] → eulS l (k + 1) = eulS l k := fun k hk => by
    show (if (k + 1) % 2 = 1 then eulS l k + ((allC l (k + 1)).length : Int) else eulS l k - ((allC l (k + 1)).length : Int)) = _
    rw [hk]; simp
  rw [e 7 h8, e 6 h7, e 5 h6]
end Go.Proofs.YtjbepoofigokjaaGreat
namespace Go.Proofs.YtjbepoofigokjaaGreat
theorem upC_nodup {l : Cx} (hl : ∀ s ∈ l, Asc s) : ∀ k, (upC l k).Nodup
  | 0 => by simp [upC]
  | k + 1 => by
    show (upC l k ++ allC l (k + 1)).Nodup
    rw [List.nodup_append]
    refine ⟨upC_nodup hl k, (allC_asc l _).nodup, fun x hx y hy hxy => ?_⟩
    subst hxy
    obtain ⟨j, h1, h2, h3⟩ := upC_mem.1 hx
    have e1 := ((all_iff hl).1 h3).2.1
    have e2 := ((all_iff hl).1 hy).2.1
    omega
theorem len_disj {s t : List Vx} (hs : Asc s) (ht : Asc t) (h : ∀ v ∈ s, v ∉ t) : (allV s t).length = s.length + t.length := by
  have hn1 : s.Nodup := List.Pairwise.imp (fun {a b} hab hc => by subst hc; rw [cmpV_eq.2 rfl] at hab; omega) hs
  have hn2 : t.Nodup := List.Pairwise.imp (fun {a b} hab hc => by subst hc; rw [cmpV_eq.2 rfl] at hab; omega) ht
  have hn : (s ++ t).Nodup := by
    rw [List.nodup_append]
    refine ⟨hn1, hn2, fun x hx y hy hxy => ?_⟩
    subst hxy
    exact h x hx hy
  have ha := asc_allV (l := t) hs
  have hn3 : (allV s t).Nodup := List.Pairwise.imp (fun {a b} hab hc => by subst hc; rw [cmpV_eq.2 rfl] at hab; omega) ha
  rw [← List.length_append]
  apply Nat.le_antisymm
  · exact List.Nodup.length_le_of_subset hn3 fun x hx => by rw [List.mem_append]; exact mem_allV.1 hx
  · exact List.Nodup.length_le_of_subset hn fun x hx => mem_allV.2 (List.mem_append.1 hx)
end Go.Proofs.YtjbepoofigokjaaGreat
