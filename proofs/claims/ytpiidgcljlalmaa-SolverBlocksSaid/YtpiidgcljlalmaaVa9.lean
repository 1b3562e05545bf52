/- Part 9: walks by contracts, and plain laws. -/
import Derived.Test.YtpiidgcljlalmaaVa8
set_option linter.unusedVariables false
set_option linter.unusedSimpArgs false
set_option linter.unusedSectionVars false
namespace Go.Proofs.Ytpiidgcljlalmaa
open Go.RowKit
set_option linter.unusedSectionVars false
theorem map_eraseIdx' {α β : Type} (f : α → β) : ∀ (l : List α) (j : Nat), (l.eraseIdx j).map f = (l.map f).eraseIdx j
  | [], _ => by simp
  | _ :: _, 0 => rfl
  | a :: l, j + 1 => by simp only [List.eraseIdx_cons_succ, List.map_cons]; rw [map_eraseIdx' f l j]
section
variable {P : Program} {k t e : TypeId} {z : Value} {K V : Type} [DecidableEq K] {kv : K → Value} {ok : K → Prop} {vv : V → Value}
def entF (kv : K → Value) (vv : V → Value) (m : List (K × V × Nat)) : List MapEntry := m.map fun p => ⟨kv p.1, vv p.2.1, p.2.2⟩
structure MapOf (ok : K → Prop) (f : K → Option V) (m : List (K × V × Nat)) : Prop where
  keys : ∀ p ∈ m, ok p.1
  nodup : (m.map (·.1)).Nodup
  no : ∀ x, (∀ p ∈ m, p.1 ≠ x) → f x = none
  yes : ∀ p ∈ m, f p.1 = some p.2.1
def upF (f : K → Option V) (x : K) (v : Option V) : K → Option V := fun y => if y = x then v else f y
def hG (b : Nat) (kv : K → Value) (ok : K → Prop) (vv : V → Value) (p : (K → Option V) → Prop) : HObj where
  blk := some b
  ok := fun _ w => ∃ f m c, p f ∧ MapOf ok f m ∧ w.heap[b]? = some (.map (entF kv vv m).toArray c)
  weak := fun h _ => h
  bound := fun h => h
  move := fun ⟨f, m, c, h0, h1, h2⟩ hg _ hne => ⟨f, m, c, h0, h1, by
    have hlt : b < _ := (Array.getElem?_eq_some_iff.1 h2).1
    refine (hg.block b hlt ?_).trans h2
    rcases hne with h | h
    · cases h
    · exact h⟩
theorem find_keyF (H : KeyT P k kv ok) {f : K → Option V} {m : List (K × V × Nat)} (hm : MapOf ok f m) {x : K} (hx : ok x) (w : World) :
    ((Instr.findKey k (kv x) (entF kv vv m)).run P w = .ok none w ∧ (∀ p ∈ m, p.1 ≠ x) ∧ f x = none) ∨
    ∃ (j : Nat) (h : j < m.length), m[j].1 = x ∧ f x = some m[j].2.1 ∧ (Instr.findKey k (kv x) (entF kv vv m)).run P w = .ok (some (j, vv m[j].2.1)) w := by
  obtain ⟨lx, hlx⟩ := H.lit x hx
  have hk : ∀ en ∈ entF kv vv m, ∃ l, keyOf P k en.key = some l := fun en hen => by
    obtain ⟨p, hp, rfl⟩ := List.mem_map.1 hen
    exact H.lit _ (hm.keys p hp)
  rcases H.law.find w hlx _ hk with ⟨h1, h2⟩ | ⟨j, en, h1, h2, h3⟩
  · have hne : ∀ p ∈ m, p.1 ≠ x := fun p hp hpx => h2 _ (List.mem_map_of_mem hp) (by show kv p.1 = kv x; rw [hpx])
    exact .inl ⟨h1, hne, hm.no x hne⟩
  · unfold entF at h2
    rw [List.getElem?_map] at h2
    obtain ⟨p, hp, rfl⟩ := Option.map_eq_some_iff.1 h2
    obtain ⟨hj, rfl⟩ := List.getElem?_eq_some_iff.1 hp
    have hkx : m[j].1 = x := H.inj _ _ (hm.keys _ (List.getElem_mem hj)) hx h3
    exact .inr ⟨j, hj, hkx, by rw [← hkx]; exact hm.yes _ (List.getElem_mem hj), h1⟩
theorem entF_at {m : List (K × V × Nat)} {j : Nat} (hj : j < m.length) : (entF kv vv m)[j]? = some ⟨kv m[j].1, vv m[j].2.1, m[j].2.2⟩ := by
  unfold entF; rw [List.getElem?_map, List.getElem?_eq_getElem hj]; rfl
theorem MapOf.at {f : K → Option V} {m : List (K × V × Nat)} (h : MapOf ok f m) {i j : Nat} (hi : i < m.length) (hj : j < m.length) (e : m[i].1 = m[j].1) : i = j := by
  have h3 : (m.map (·.1))[i]'(by simpa using hi) = (m.map (·.1))[j]'(by simpa using hj) := by simpa using e
  exact (List.getElem_inj h.nodup).1 h3
theorem MapOf.set {f : K → Option V} {m : List (K × V × Nat)} (h : MapOf ok f m) {j : Nat} (hj : j < m.length) (v : V) : MapOf ok (upF f m[j].1 (some v)) (m.set j (m[j].1, v, m[j].2.2)) := by
  have hks : (m.set j (m[j].1, v, m[j].2.2)).map (·.1) = m.map (·.1) := by
    rw [List.map_set]
    apply List.ext_getElem (by simp)
    intro i h1 h2
    rw [List.getElem_set]
    split
    · rename_i e; subst e; simp
    · rfl
  refine ⟨fun p hp => ?_, by rw [hks]; exact h.nodup, fun x hx => ?_, fun p hp => ?_⟩
  · rcases List.mem_or_eq_of_mem_set hp with hp | rfl
    · exact h.keys p hp
    · exact h.keys m[j] (List.getElem_mem hj)
  · have hx' : ∀ p ∈ m, p.1 ≠ x := fun p hp e => by
      have : p.1 ∈ (m.set j (m[j].1, v, m[j].2.2)).map (·.1) := by rw [hks]; exact List.mem_map_of_mem hp
      obtain ⟨q, hq, e'⟩ := List.mem_map.1 this
      exact hx q hq (e'.trans e)
    unfold upF
    rw [if_neg fun e => hx' _ (List.getElem_mem hj) e.symm]
    exact h.no x hx'
  · obtain ⟨i, hi, rfl⟩ := List.mem_iff_getElem.1 hp
    rw [List.length_set] at hi
    rw [List.getElem_set]
    unfold upF
    by_cases e : j = i
    · rw [if_pos e]; exact if_pos rfl
    · rw [if_neg e, if_neg fun q => e (h.at hi hj q).symm]
      exact h.yes _ (List.getElem_mem hi)
theorem MapOf.push {f : K → Option V} {m : List (K × V × Nat)} (h : MapOf ok f m) {x : K} (hx : ok x) (hn : ∀ p ∈ m, p.1 ≠ x) (v : V) (c : Nat) : MapOf ok (upF f x (some v)) (m ++ [(x, v, c)]) := by
  refine ⟨fun p hp => ?_, ?_, fun y hy => ?_, fun p hp => ?_⟩
  · rcases List.mem_append.1 hp with hp | hp
    · exact h.keys p hp
    · rw [List.mem_singleton.1 hp]; exact hx
  · rw [List.map_append, List.nodup_append]
    refine ⟨h.nodup, by simp, fun a ha b hb e => ?_⟩
    obtain ⟨p, hp, rfl⟩ := List.mem_map.1 ha
    simp only [List.map_cons, List.map_nil, List.mem_singleton] at hb
    exact hn p hp (e.trans hb)
  · unfold upF
    rw [if_neg fun e => hy (x, v, c) (by simp) e.symm]
    exact h.no y fun p hp => hy p (List.mem_append_left _ hp)
  · unfold upF
    rcases List.mem_append.1 hp with hp | hp
    · rw [if_neg (hn p hp)]; exact h.yes p hp
    · rw [List.mem_singleton.1 hp]; exact if_pos rfl
theorem MapOf.erase {f : K → Option V} {m : List (K × V × Nat)} (h : MapOf ok f m) {j : Nat} (hj : j < m.length) : MapOf ok (upF f m[j].1 none) (m.eraseIdx j) := by
  have hsub := List.eraseIdx_sublist m j
  have hmem : ∀ p, p ∈ m.eraseIdx j ↔ ∃ i, ∃ hi : i < m.length, i ≠ j ∧ m[i] = p := fun p => by
    rw [List.mem_eraseIdx_iff_getElem]
    try (constructor <;> (rintro ⟨i, hi, h1, h2⟩; exact ⟨i, hi, h1, h2⟩))
  refine ⟨fun p hp => h.keys p (hsub.subset hp), List.Nodup.sublist (hsub.map _) h.nodup, fun x hx => ?_, fun p hp => ?_⟩
  · unfold upF
    by_cases e : x = m[j].1
    · rw [if_pos e]
    · rw [if_neg e]
      refine h.no x fun p hp q => ?_
      obtain ⟨i, hi, rfl⟩ := List.mem_iff_getElem.1 hp
      exact hx m[i] ((hmem _).2 ⟨i, hi, fun e' => by subst e'; exact e q.symm, rfl⟩) q
  · obtain ⟨i, hi, hne, rfl⟩ := (hmem p).1 hp
    unfold upF
    rw [if_neg fun q => hne (h.at hi hj q)]
    exact h.yes _ (List.getElem_mem hi)
theorem MapOf.gone {f : K → Option V} {m : List (K × V × Nat)} (h : MapOf ok f m) {x : K} (hn : f x = none) : MapOf ok (upF f x none) m := by
  have : upF f x none = f := by
    funext y
    unfold upF
    by_cases e : y = x
    · rw [if_pos e, e, hn]
    · rw [if_neg e]
  rw [this]; exact h
section
variable {f : K → Option V} {w : World} {b : Nat} {x : K}
theorem run_lookF (T : MapT P t k e z) (H : KeyT P k kv ok) (hx : ok x) {m : List (K × V × Nat)} {cl : Nat} (hm : MapOf ok f m) (hb : w.heap[b]? = some (.map (entF kv vv m).toArray cl)) (c : Bool) :
    (Instr.lookup t (.map (some b)) (kv x) c).run P w = .ok (if c then .tuple #[((f x).map vv).getD z, .bool (f x).isSome] else ((f x).map vv).getD z) w := by
  obtain ⟨lx, hlx⟩ := H.lit x hx
  have hg := MapKept.run_getObj_map (P := P) hb
  rcases find_keyF (vv := vv) H hm hx w with ⟨h1, h2, h3⟩ | ⟨j, hj, h1, h3, h2⟩
  · rw [h3]
    simp [Instr.lookup, run_underlying T.under, hg, H.law.check w _ hlx, h1, T.zero, Result.andThen]
  · rw [h3]
    simp [Instr.lookup, run_underlying T.under, hg, H.law.check w _ hlx, h2, Result.andThen]
theorem run_updF (T : MapT P t k e z) (H : KeyT P k kv ok) (hx : ok x) (v : V) {m : List (K × V × Nat)} {cl : Nat} (hm : MapOf ok f m) (hb : w.heap[b]? = some (.map (entF kv vv m).toArray cl)) :
    ∃ m' cl', MapOf ok (upF f x (some v)) m' ∧ (Instr.mapUpdate t (.map (some b)) (kv x) (vv v)).run P w = .ok () (w.putObj b (.map (entF kv vv m').toArray cl')) := by
  obtain ⟨lx, hlx⟩ := H.lit x hx
  have hg := MapKept.run_getObj_map (P := P) hb
  rcases find_keyF (vv := vv) H hm hx w with ⟨h1, h2, h3⟩ | ⟨j, hj, h1, h3, h2⟩
  · refine ⟨m ++ [(x, v, cl)], cl + 1, hm.push hx h2 v cl, ?_⟩
    have e1 : (entF kv vv (m ++ [(x, v, cl)])).toArray = (entF kv vv m).toArray.push ⟨kv x, vv v, cl⟩ := by unfold entF; simp
    rw [e1]
    simp [Instr.mapUpdate, run_underlying T.under, hg, H.law.check w _ hlx, h1, MapKept.run_setObj_map _ hb, Result.andThen, World.putObj]
  · subst h1
    refine ⟨m.set j (m[j].1, v, m[j].2.2), cl, hm.set hj v, ?_⟩
    have hat := entF_at (kv := kv) (vv := vv) hj
    have e1 : (entF kv vv (m.set j (m[j].1, v, m[j].2.2))).toArray = (entF kv vv m).toArray.modify j fun en => { en with key := kv m[j].1, val := vv v } := by
      apply Array.ext'
      rw [Array.toList_modify, ChangeMaps.modify_eq_set _ _ _ _ (by simpa using hat)]
      unfold entF
      simp [List.map_set]
    rw [e1]
    simp [Instr.mapUpdate, run_underlying T.under, hg, H.law.check w _ hlx, h2, hat, H.law.stays w hlx, MapKept.run_setObj_map _ hb, Result.andThen, World.putObj]
theorem run_delF {ty : TypeId} (T : MapT P t k e z) (H : KeyT P k kv ok) (hx : ok x) {m : List (K × V × Nat)} {cl : Nat} (hm : MapOf ok f m) (hb : w.heap[b]? = some (.map (entF kv vv m).toArray cl)) :
    ∃ m' cl', MapOf ok (upF f x none) m' ∧ (Builtin.delete_ #[t, k] ty #[.map (some b), kv x]).run P w = .ok (.tuple #[]) (w.putObj b (.map (entF kv vv m').toArray cl')) := by
  obtain ⟨lx, hlx⟩ := H.lit x hx
  have hg := MapKept.run_getObj_map (P := P) hb
  rcases find_keyF (vv := vv) H hm hx w with ⟨h1, h2, h3⟩ | ⟨j, hj, h1, h3, h2⟩
  · refine ⟨m, cl, hm.gone h3, ?_⟩
    simp [Builtin.delete_, run_underlying T.under, hg, H.law.check w _ hlx, h1, MapKept.run_setObj_map _ hb, Result.andThen, World.putObj]
  · subst h1
    refine ⟨m.eraseIdx j, cl, hm.erase hj, ?_⟩
    have hl : (entF kv vv m).length = m.length := by simp [entF]
    have e1 : (entF kv vv (m.eraseIdx j)).toArray = (entF kv vv m).toArray.eraseIdxIfInBounds j := by
      apply Array.ext'
      unfold entF
      simp only [Array.toList_eraseIdxIfInBounds]
      exact map_eraseIdx' _ _ _
    rw [e1]
    simp [Builtin.delete_, run_underlying T.under, hg, H.law.check w _ hlx, h2, MapKept.run_setObj_map _ hb, Result.andThen, World.putObj]
end
end
section
variable {P : Program} {ops : Array Oper} {hp : List HObj} {o : Oper} {fr : List Dat} {d d2 : Dat} {Q : Post} {rest : List Oper}
variable {dst : Option Tmp} {ty : TypeId} {ps : String} {af : Array Edge} {g : Option (Nat × Bool)} {t k e : TypeId} {z : Value} {K V : Type} [DecidableEq K] {kv : K → Value} {ok : K → Prop} {vv : V → Value} {b : Nat} {f : K → Option V} {p p' : (K → Option V) → Prop}
theorem SY.lookG {x y : Operand} {v : K} (T : MapT P t k e z) (H : KeyT P k kv ok) (hx : OpD fr x (dX (.map (some b)))) (hm : hG b kv ok vv p ∈ hp) (hy : OpD fr y d) (hd : IsV d (kv v)) (ho : ok v) {α : Type} {R : Rel α} {_gR : Good R} {u : α} (hu : ∀ (I : Nat → Prop) (w : World) (f : K → Option V), p f → R I w (((f v).map vv).getD z) u) :
    SY P ops hp { dst := dst, op := .lookup t x y false, type := ty, pos := ps, after := af, guard := g } fr (dS R u) := SY.valE fun {P0 B w0 w a} hh hon => by
  have h1 : a.eval x = _ := hx.get (by simp [Op.operands]) hon
  have h2 := hd.is _ _ _ (hy.get (by simp [Op.operands]) hon)
  obtain ⟨f, m, c, hp, hm1, hm2⟩ := hh.ok _ hm
  refine ⟨_, w, ?_, Ext.refl _, hu _ _ f hp⟩
  unfold execOp
  simp only [h1, h2, Sem.run_bind, run_lookF T H ho hm1 hm2 false, Result.andThen_ok, Sem.run_pure]
  rfl
theorem SY.lookG2 {x y : Operand} {v : K} (T : MapT P t k e z) (H : KeyT P k kv ok) (hx : OpD fr x (dX (.map (some b)))) (hm : hG b kv ok vv p ∈ hp) (hy : OpD fr y d) (hd : IsV d (kv v)) (ho : ok v) {u : Value} {c : Bool} (hu : ∀ f, p f → ((f v).map vv).getD z = u ∧ (f v).isSome = c) :
    SY P ops hp { dst := dst, op := .lookup t x y true, type := ty, pos := ps, after := af, guard := g } fr (dT [dX u, dB c]) := SY.valE fun {P0 B w0 w a} hh hon => by
  have h1 : a.eval x = _ := hx.get (by simp [Op.operands]) hon
  have h2 := hd.is _ _ _ (hy.get (by simp [Op.operands]) hon)
  obtain ⟨f, m, cl, hp, hm1, hm2⟩ := hh.ok _ hm
  obtain ⟨e1, e2⟩ := hu f hp
  refine ⟨_, w, ?_, Ext.refl _, [((f v).map vv).getD z, .bool (f v).isSome], rfl, rfl, fun i e x he hx => ?_⟩
  · unfold execOp
    simp only [h1, h2, Sem.run_bind, run_lookF T H ho hm1 hm2 true, Result.andThen_ok, Sem.run_pure]
    rfl
  · match i, he, hx with
    | 0, he, hx => cases he; cases hx; exact e1
    | 1, he, hx => cases he; cases hx; show _ = _; rw [e2]
theorem Hp.putG {P0 : Nat → Prop} {B : Nat} {w0 w : World} {f' : K → Option V} {m' : List (K × V × Nat)} {c' : Nat} (h : Hp P0 B w0 (hG b kv ok vv p :: hp) w) (hp' : p' f') (hm : MapOf ok f' m') : Hp P0 B w0 (hG b kv ok vv p' :: hp) (w.putObj b (.map (entF kv vv m').toArray c')) := by
  obtain ⟨f, m, c, _, _, hl⟩ := h.ok (hG b kv ok vv p) (by simp)
  exact h.write (o' := hG b kv ok vv p') (grown_putObj w b _) (.inl rfl) ⟨f', m', c', hp', hm, World.putObj_heap_same (Array.getElem?_eq_some_iff.1 hl).1⟩
theorem Hp.putG_rd {P0 : Nat → Prop} {B : Nat} {w : World} {o : Obj} {v : Value} (hd : d.rd (Imm P0 B (hG b kv ok vv p :: hp)) w v) : d.rd (Imm P0 B (hG b kv ok vv p' :: hp)) (w.putObj b o) v :=
  Hp.written (o := hG b kv ok vv p) (o' := hG b kv ok vv p') (grown_putObj w b o) (.inl rfl) hd
theorem run_updG {x y c : Operand} {v : K} {u : V} {w : World} {a : Act} (T : MapT P t k e z) (H : KeyT P k kv ok) (h1 : a.eval x = .map (some b)) (h2 : a.eval y = kv v) (h3 : a.eval c = vv u) (ho : ok v) {m : List (K × V × Nat)} {cl : Nat} (hm1 : MapOf ok f m) (hm2 : w.heap[b]? = some (.map (entF kv vv m).toArray cl)) :
    ∃ m' cl', MapOf ok (upF f v (some u)) m' ∧ (execOp a.eval { dst := dst, op := .mapUpdate t x y c, type := ty, pos := ps, after := af, guard := g }).run P w = .ok .skip (w.putObj b (.map (entF kv vv m').toArray cl')) := by
  obtain ⟨m', cl', hm', hr⟩ := run_updF T H ho u hm1 hm2
  refine ⟨m', cl', hm', ?_⟩
  unfold execOp
  simp only [h1, h2, h3, Sem.run_bind, hr, Result.andThen_ok, Sem.run_pure]
theorem WL.updG (p' : (K → Option V) → Prop) {x y c : Operand} {v : K} {u : V} (T : MapT P t k e z) (H : KeyT P k kv ok) (hx : OpD fr x (dX (.map (some b)))) (hy : OpD fr y d) (hd : IsV d (kv v)) (hc : OpD fr c d2) (hd2 : IsV d2 (vv u)) (ho : ok v)
    (hpp : ∀ f, p f → p' (upF f v (some u))) (h : WL P ops Q rest (setD fr dst (dX undef)) (hG b kv ok vv p' :: hp)) :
    WL P ops Q ({ dst := dst, op := .mapUpdate t x y c, type := ty, pos := ps, after := af, guard := none } :: rest) fr (hG b kv ok vv p :: hp) := by
  refine WL.of fun P0 B w0 w a hh hf => ?_
  obtain ⟨f, m, cl, hp, hm1, hm2⟩ := hh.ok (hG b kv ok vv p) (by simp)
  obtain ⟨m', cl', hm', hrun⟩ := run_updG (dst := dst) (ty := ty) (ps := ps) (af := af) (g := none) T H (hx.ev hf) (hd.is _ _ _ (hy.ev hf)) (hd2.is _ _ _ (hc.ev hf)) ho hm1 hm2
  refine wpList_plain rfl fun K hK => ?_
  unfold Oper.wp
  rw [hrun]
  exact hK _ _ (h.on (Hp.putG hh (hpp f hp) hm') (Fr.put (hf.mono fun _ _ hd => Hp.putG_rd hd) (d := dX undef) rfl))
theorem WL.delG (p' : (K → Option V) → Prop) {x y : Operand} {v : K} (T : MapT P t k e z) (H : KeyT P k kv ok) (hx : OpD fr x (dX (.map (some b)))) (hy : OpD fr y d) (hd : IsV d (kv v)) (ho : ok v)
    (hpp : ∀ f, p f → p' (upF f v none)) (h : WL P ops Q rest (setD fr dst dA) (hG b kv ok vv p' :: hp)) :
    WL P ops Q ({ dst := dst, op := .call { callee := .builtin .delete, args := #[x, y], argTypes := #[t, k] }, type := ty, pos := ps, after := af, guard := none } :: rest) fr (hG b kv ok vv p :: hp) := by
  refine WL.of fun P0 B w0 w a hh hf => ?_
  have h1 : a.eval x = _ := hx.ev hf
  have h2 := hd.is _ _ _ (hy.ev hf)
  obtain ⟨f, m, cl, hp, hm1, hm2⟩ := hh.ok (hG b kv ok vv p) (by simp)
  obtain ⟨m', cl', hm', hr⟩ := run_delF (ty := ty) T H ho hm1 hm2
  have hrun : (execOp a.eval { dst := dst, op := .call { callee := .builtin .delete, args := #[x, y], argTypes := #[t, k] }, type := ty, pos := ps, after := af, guard := none }).run P w = .ok (.value (.tuple #[])) (w.putObj b (.map (entF kv vv m').toArray cl')) := by
    unfold execOp
    simp [resolve, invoke, builtin, h1, h2, hr, Result.andThen]
  refine wpList_value rfl hrun ?_
  exact h.on (Hp.putG hh (hpp f hp) hm') (Fr.put (hf.mono fun _ _ hd => Hp.putG_rd hd) (d := dA) trivial)
theorem MapOf.nil : MapOf ok (fun _ : K => (none : Option V)) [] := ⟨by simp, by simp, fun _ _ => rfl, by simp⟩
theorem WL.makeG (kv : K → Value) (ok : K → Prop) (vv : V → Value) (p : (K → Option V) → Prop) (h0 : p fun _ => none) (h : ∀ b, WL P ops Q rest (setD fr dst (dX (.map (some b)))) (hG b kv ok vv p :: hp)) :
    WL P ops Q ({ dst := dst, op := .makeMap t none, type := ty, pos := ps, after := af, guard := none } :: rest) fr hp := by
  refine WL.of fun P0 B w0 w a hh hf => ?_
  have hrun : (execOp a.eval { dst := dst, op := .makeMap t none, type := ty, pos := ps, after := af, guard := none }).run P w = .ok (.value (.map (some w.heap.size))) (w.alloc (.map (entF kv vv []).toArray 0)) := by
    unfold execOp
    simp [Instr.makeMap, entF]
  refine wpList_value rfl hrun ?_
  have hx := Ext.of_alloc w (.map (entF kv vv []).toArray 0)
  have hb : ∀ k, (hG w.heap.size kv ok vv p).blk = some k → w.heap.size ≤ k ∧ k < (w.alloc (.map (entF kv vv []).toArray 0)).heap.size := fun k hk => by
    cases hk
    exact ⟨Nat.le_refl _, by simp⟩
  refine (h w.heap.size).on (hh.push hx hb ⟨_, [], 0, h0, MapOf.nil, alloc_get w _⟩) ?_
  exact Fr.put (hf.mono fun d _ hd => Hp.pushed hx (fun k hk => (hb k hk).1) hd) rfl
end
end Go.Proofs.Ytpiidgcljlalmaa
namespace Go.Proofs.Ytpiidgcljlalmaa
open Go.RowKit
structure YStepE (P : Program) (l : Nat) {α : Type} (D : α → Dat) (J E : List α → List HObj → Prop) (N : Nat) : Prop where
  out : ∀ (P0 : Nat → Prop) (B : Nat) (w0 : World) (hp : List HObj) (pre : List α) (js : List HObj) (x : α) (u : Value) (W : World), pre.length < N → J pre js → Hp P0 B w0 (js ++ hp) W → (D x).rd (Imm P0 B (js ++ hp)) W u →
    YieldAt Fence.wide 0 P l #[u] W fun e W' => ∃ b : Bool, e = .returned (.bool b) ∧ ∃ js', (if b = true then J (pre ++ [x]) js' else E (pre ++ [x]) js') ∧ Hp P0 B w0 (js' ++ hp) W'
structure SeqE (P : Program) (gf : FuncId) (lb : List Value) (hk : List HObj) {α : Type} (D : α → Dat) (xs : List α) : Prop where
  out : ∀ (l : Nat) (J E : List α → List HObj → Prop), YStepE P l D J E xs.length → ∀ js, J [] js → CallC P gf (dX (.func (.yield l) #[] #[]) :: lb.map dX) (js ++ hk) (fun _ hp2 => ∃ js', (J xs js' ∨ ∃ pre x t, xs = pre ++ x :: t ∧ E (pre ++ [x]) js') ∧ hp2 = js' ++ hk)
theorem CallC.monoK {P : Program} {f : FuncId} {ds : List Dat} {hp1 : List HObj} {K K' : Dat → List HObj → Prop} (h : CallC P f ds hp1 K) (k : ∀ d hp2, K d hp2 → K' d hp2) : CallC P f ds hp1 K' :=
  ⟨fun P0 B w0 hp vs W hh hl hv => (h.out P0 B w0 hp vs W hh hl hv).mono fun _ _ ⟨v, d, hp2, e, hk, r⟩ => ⟨v, d, hp2, e, k d hp2 hk, r⟩⟩
theorem yieldAt_mono {F : Fence} {m : Nat} {P : Program} {l : Nat} {args : Array Value} {W : World} {R R' : Ending → World → Prop} (h : YieldAt F m P l args W R) (k : ∀ e w, R e w → R' e w) : YieldAt F m P l args W R' := by
  obtain ⟨fn, tmps, assign, body, hrun, hR⟩ := h
  exact ⟨fn, tmps, assign, body, hrun, hR.mono k⟩
theorem SeqE.seq {P : Program} {gf : FuncId} {lb : List Value} {hk : List HObj} {α : Type} {D : α → Dat} {xs : List α} (h : SeqE P gf lb hk D xs) : SeqC P gf lb hk D xs := ⟨fun l J hY js hj =>
  (h.out l J (fun _ _ => False) ⟨fun P0 B w0 hp pre js x u W hn hj hh hu => yieldAt_mono (hY.out P0 B w0 hp pre js x u W hn hj hh hu) fun _ _ ⟨he, js', hj', hh'⟩ => ⟨true, he, js', hj', hh'⟩⟩ js hj).monoK fun _ _ ⟨js', h1, h2⟩ => ⟨js', h1.elim id fun ⟨_, _, _, _, h3⟩ => h3.elim, h2⟩⟩
namespace I
end I
section
variable {P : Program} {l : Nat} {Q : Post} {fr : List Dat} {hp : List HObj}
theorem WR.ret (h : Q .ret fr hp) : WR P l Q .ret fr hp := WR.of fun _ _ _ _ _ hh hf => wpIn_ret ⟨fr, hp, h, hh, hf⟩
theorem WR.cond {c : Operand} {x y : Code} {b : Bool} (hc : OpD fr c (dB b)) (ht : b = true → WR P l Q x fr hp) (hf : b = false → WR P l Q y fr hp) : WR P l Q (.cond c x y) fr hp := WR.of fun P0 B w0 w a hh hfr => by
  refine wpIn_cond (t := b) (hc.ev hfr) ?_
  cases b with
  | true => exact (ht rfl).out _ _ _ _ _ hh hfr
  | false => exact (hf rfl).out _ _ _ _ _ hh hfr
end
end Go.Proofs.Ytpiidgcljlalmaa
namespace Go.Proofs.Ytpiidgcljlalmaa
open Go.RowKit
def RVal : Rel Value := fun _ _ v x => v = x
instance : Good RVal := ⟨fun h _ => h, fun h _ => h, fun h => h⟩
def RRow : Rel Value := fun _ _ v x => v = x ∧ x.oneCell' = true
instance : Good RRow := ⟨fun h _ => h, fun h _ => h, fun h => h⟩
theorem shape_R {a : Value} : (dS RRow a).Shape 1 false := fun I w v h => shape_X (show a.oneCell' = true from (h : _ ∧ _).2) I w v (show v = a from (h : _ ∧ _).1)
theorem le_RX {a : Value} : (dS RRow a).le (dX a) := fun _ _ _ h => (h : _ ∧ _).1
theorem le_XR {a : Value} (h : a.oneCell' = true) : (dX a).le (dS RRow a) := fun _ _ _ q => ⟨q, h⟩
def cutV (v : Value) (k : Nat) : Value := match v with
  | .slice (some ad) _ cap => .slice (some ad) k cap
  | v => v
def fromV (v : Value) (l : Nat) : Value := match v with
  | .slice (some ⟨b, o, s⟩) n cap => .slice (some ⟨b, if cap = l then o else o + l, s⟩) (n - l) (cap - l)
  | v => v
section
variable {P : Program} {ops : Array Oper} {hp : List HObj} {o : Oper} {fr : List Dat} {d : Dat} {Q : Post} {rest : List Oper} {c : Code}
variable {dst : Option Tmp} {ty : TypeId} {ps : String} {af : Array Edge} {g : Option (Nat × Bool)} {e e' t T : TypeId} {bytes : Nat} {z : Value} {ag : Bool} {α : Type} {R : Rel α} {xs : List α} {v : Value}
theorem own_form {I : Nat → Prop} {w : World} (h : Own 0 e R I w v xs) : (v = .slice none 0 0 ∧ xs = []) ∨ ∃ b cap, v = .slice (some ⟨b, 0, none⟩) xs.length cap ∧ xs.length ≤ cap := by
  obtain ⟨us, h1, ⟨h2, h3⟩, h4⟩ := h
  rcases h3 with ⟨hv, hz⟩ | ⟨g, cap, cur, hv, hB, hg, hc1, hc2, hc3, hc4⟩
  · exact .inl ⟨hv, List.length_eq_zero_iff.1 hz⟩
  · exact .inr ⟨g, cap, hv, hc1⟩
theorem own_cut {I : Nat → Prop} {w : World} (h : Own 0 e R I w v xs) {k : Nat} (hk : k ≤ xs.length) : Own 0 e R I w (cutV v k) (xs.take k) ∧ (cutV v k).ownBlock = v.ownBlock := by
  obtain ⟨us, h1, ⟨h2, h3⟩, h4⟩ := h
  rcases h3 with ⟨rfl, hz⟩ | ⟨g, cap, cur, rfl, hB, hg, hc1, hc2, hc3, hc4⟩
  · have : xs = [] := List.length_eq_zero_iff.1 hz
    subst this
    rw [List.take_nil]
    exact ⟨Own.nil, rfl⟩
  · refine ⟨⟨us.take k, by simp; omega, ⟨by simp; omega, .inr ⟨g, cap, cur, by simp [cutV, Nat.min_eq_left hk], hB, hg, by simp; omega, hc2, ?_, ?_⟩⟩, fun j q1 q2 => ?_⟩, rfl⟩
    · try simp only [List.length_take, Nat.mul_one] at hc3 ⊢
      omega
    · rw [Nat.mul_one] at hc4
      simp only [List.length_take, Nat.min_eq_left hk, Nat.mul_one]
      rw [← hc4, List.take_take, Nat.min_eq_left hk]
    · rw [List.length_take] at q1 q2
      rw [List.getElem_take, List.getElem_take]
      exact h4 j (by omega) (by omega)
theorem WL.cutR {_gR : Good R} {k : Nat} (hk : k ≤ xs.length) (h : WL P ops Q rest fr (hRow (cutV v k) e R (xs.take k) :: hp)) : WL P ops Q rest fr (hRow v e R xs :: hp) := WL.of fun P0 B w0 w a hh hf => by
  have hok := hh.ok (hRow v e R xs) (by simp)
  obtain ⟨h1, h2⟩ := own_cut (hok : Own 0 e R _ w v xs) hk
  have hgr : w.grownBy w (hRow v e R xs).blk := ⟨rfl, rfl, rfl, Nat.le_refl _, fun _ _ _ => rfl⟩
  exact h.on (hh.write (o' := hRow (cutV v k) e R (xs.take k)) hgr (.inl h2) ((hRow (cutV v k) e R (xs.take k)).bound h1)) (hf.mono fun _ _ hd => Hp.written (o' := hRow (cutV v k) e R (xs.take k)) hgr (.inl h2) hd)
theorem WC.cutR {_gR : Good R} {k : Nat} (hk : k ≤ xs.length) (h : WC P Q c fr (hRow (cutV v k) e R (xs.take k) :: hp)) : WC P Q c fr (hRow v e R xs :: hp) := WC.of fun P0 B w0 w a hh hf => by
  have hok := hh.ok (hRow v e R xs) (by simp)
  obtain ⟨h1, h2⟩ := own_cut (hok : Own 0 e R _ w v xs) hk
  have hgr : w.grownBy w (hRow v e R xs).blk := ⟨rfl, rfl, rfl, Nat.le_refl _, fun _ _ _ => rfl⟩
  exact h.on (hh.write (o' := hRow (cutV v k) e R (xs.take k)) hgr (.inl h2) ((hRow (cutV v k) e R (xs.take k)).bound h1)) (hf.mono fun _ _ hd => Hp.written (o' := hRow (cutV v k) e R (xs.take k)) hgr (.inl h2) hd)
theorem SY.uptoR {_gR : Good R} {x y : Operand} {k : Nat} {j : Int} (E : ElT P t e 1 z bytes ag) (hx : OpD fr x (dX v)) (hm : hRow v e' R xs ∈ hp) (hy : OpD fr y (dI j)) (hj : j = (k : Int)) (hk : k ≤ xs.length) :
    SY P ops hp { dst := dst, op := .slice t x none (some y) none, type := ty, pos := ps, after := af, guard := g } fr (dX (cutV v k)) := SY.valE fun {P0 B w0 w a} hh ho => by
  have h1 : a.eval x = v := hx.get (by simp [Op.operands]) ho
  have h2 : a.eval y = _ := hy.get (by simp [Op.operands]) ho
  refine ⟨_, w, ?_, Ext.refl _, rfl⟩
  rcases own_form (hh.ok _ hm) with ⟨rfl, rfl⟩ | ⟨b, cap, rfl, hc⟩
  · have hk0 : k = 0 := by simpa using hk
    subst hk0
    have hr := run_slice (w := w) (ad := none) (len := 0) (cap := 0) (lo := none) (hi := some (.int .i64 ((0 : Nat) : Int))) (l := 0) (h := 0) E (.inl ⟨rfl, rfl⟩) (.inr ⟨_, rfl⟩) (by omega) (by omega)
    unfold execOp
    simp only [h1, h2, hj, Option.map_none, Option.map_some, Sem.run_bind, hr, Result.andThen_ok, Sem.run_pure]
    rfl
  · have hr := run_slice (w := w) (ad := some ⟨b, 0, none⟩) (len := xs.length) (cap := cap) (lo := none) (hi := some (.int .i64 (k : Int))) (l := 0) (h := k) E (.inl ⟨rfl, rfl⟩) (.inr ⟨_, rfl⟩) (by omega) (by omega)
    unfold execOp
    simp only [h1, h2, hj, Option.map_none, Option.map_some, Sem.run_bind, hr, Result.andThen_ok, Sem.run_pure]
    simp [cutV, Addr.add_lit]
theorem SY.fromR {_gR : Good R} {x y : Operand} {l : Nat} {j : Int} (E : ElT P t e 1 z bytes ag) (hx : OpD fr x (dX v)) (hm : hRow v e' R xs ∈ hp) (hy : OpD fr y (dI j)) (hj : j = (l : Int)) (hl : l ≤ xs.length) :
    SY P ops hp { dst := dst, op := .slice t x (some y) none none, type := ty, pos := ps, after := af, guard := g } fr (dX (fromV v l)) := SY.valE fun {P0 B w0 w a} hh ho => by
  have h1 : a.eval x = v := hx.get (by simp [Op.operands]) ho
  have h2 : a.eval y = _ := hy.get (by simp [Op.operands]) ho
  refine ⟨_, w, ?_, Ext.refl _, rfl⟩
  rcases own_form (hh.ok _ hm) with ⟨rfl, rfl⟩ | ⟨b, cap, rfl, hc⟩
  · have hk0 : l = 0 := by simpa using hl
    subst hk0
    have hr := run_slice (w := w) (ad := none) (len := 0) (cap := 0) (lo := some (.int .i64 ((0 : Nat) : Int))) (hi := none) (l := 0) (h := 0) E (.inr ⟨_, rfl⟩) (.inl ⟨rfl, rfl⟩) (by omega) (by omega)
    unfold execOp
    simp only [h1, h2, hj, Option.map_none, Option.map_some, Sem.run_bind, hr, Result.andThen_ok, Sem.run_pure]
    rfl
  · have hr := run_slice (w := w) (ad := some ⟨b, 0, none⟩) (len := xs.length) (cap := cap) (lo := some (.int .i64 (l : Int))) (hi := none) (l := l) (h := xs.length) E (.inr ⟨_, rfl⟩) (.inl ⟨rfl, rfl⟩) (by omega) (by omega)
    unfold execOp
    simp only [h1, h2, hj, Option.map_none, Option.map_some, Sem.run_bind, hr, Result.andThen_ok, Sem.run_pure]
    simp only [fromV]
    split <;> simp_all [Addr.add_lit]
theorem SY.lenFrom {_gR : Good R} {x : Operand} {ats : TypeId} {l : Nat} (hu : P.underlying ats = some (.slice e)) (hx : OpD fr x (dX (fromV v l))) (hm : hRow v e' R xs ∈ hp) (hl : l ≤ xs.length) :
    SY P ops hp { dst := dst, op := .call { callee := .builtin .len, args := #[x], argTypes := #[ats] }, type := ty, pos := ps, after := af, guard := g } fr (dI (((xs.length - l : Nat) : Nat) : Int)) := SY.valE fun {P0 B w0 w a} hh hon => by
  have h1 : a.eval x = _ := hx.get (by simp [Op.operands, Call.operands]) hon
  refine ⟨.int .i64 ((xs.length - l : Nat) : Int), w, ?_, Ext.refl _, rfl⟩
  have hr : (Builtin.len_ #[ats] ty #[fromV v l]).run P w = .ok (.int .i64 ((xs.length - l : Nat) : Int)) w := by
    rcases own_form (hh.ok _ hm) with ⟨rfl, rfl⟩ | ⟨b, cap, rfl, hc⟩
    · have hk0 : l = 0 := by simpa using hl
      subst hk0
      simp [fromV, Builtin.len_, run_underlying hu, Result.andThen, goInt]
    · simp [fromV, Builtin.len_, run_underlying hu, Result.andThen, goInt]
  unfold execOp
  simp [resolve, invoke, builtin, h1, hr, Result.andThen]
theorem SY.ixFrom {_gR : Good R} {x i : Operand} {k l : Nat} {j : Int} (E : ElT P t e 1 z bytes ag) (hx : OpD fr x (dX (fromV v l))) (hm : hRow v e' R xs ∈ hp) (hi : OpD fr i (dI j)) (hj : j = (k : Int)) (hk : l + k < xs.length) :
    SY P ops hp { dst := dst, op := .indexAddr t x i, type := ty, pos := ps, after := af, guard := g } fr (dX (elemPtr v (l + k))) := SY.valE fun {P0 B w0 w a} hh ho => by
  have h1 : a.eval x = _ := hx.get (by simp [Op.operands]) ho
  have h2 : a.eval i = _ := hi.get (by simp [Op.operands]) ho
  obtain ⟨b, cap, us, hv, _⟩ := own_row (hh.ok _ hm) hk
  have hcl : xs.length ≤ cap := by
    rcases own_form (hh.ok _ hm) with ⟨rfl, rfl⟩ | ⟨b', cap', hv', hc⟩
    · simp at hk
    · rw [hv] at hv'; injection hv' with _ _ h3; omega
  refine ⟨.pointer (some ⟨b, l + k * 1, none⟩), w, ?_, Ext.refl _, ?_⟩
  · have hfv : fromV v l = .slice (some ⟨b, l, none⟩) (xs.length - l) (cap - l) := by
      have hne : ¬ cap = l := by omega
      rw [hv]
      show Value.slice (some ⟨b, if cap = l then 0 else 0 + l, none⟩) (xs.length - l) (cap - l) = _
      rw [if_neg hne, Nat.zero_add]
    unfold execOp
    simp only [h1, hfv, h2, hj, Sem.run_bind, run_indexAt (w := w) E b l (xs.length - l) (cap - l) k .i64 (by omega), Result.andThen_ok, Sem.run_pure]
  · show _ = elemPtr v (l + k)
    rw [hv]; simp [elemPtr]
end
section
variable {ι : Type} [DecidableEq ι] {u : ι → Value} {e : TypeId} {c : ι → List Int} {L : List ι} {i : ι} {A B : List HObj}
def gO (L : List ι) (u : ι → Value) (e : TypeId) (c : ι → List Int) : List HObj := L.map fun i => hRow (u i) e RI (c i)
omit [DecidableEq ι] in
theorem gO_mem (h : i ∈ L) : hRow (u i) e RI (c i) ∈ gO L u e c := List.mem_map.2 ⟨i, h, rfl⟩
theorem gO_take (h : i ∈ L) : (gO L u e c).Perm (hRow (u i) e RI (c i) :: gO (L.erase i) u e c) := by
  have := (List.perm_cons_erase h).map fun i => hRow (u i) e RI (c i)
  simpa [gO] using this
theorem gO_back (hn : L.Nodup) (h : i ∈ L) {u' : ι → Value} {c' : ι → List Int} (hu : ∀ j, j ≠ i → u' j = u j) (hc : ∀ j, j ≠ i → c' j = c j) : (hRow (u' i) e RI (c' i) :: gO (L.erase i) u e c).Perm (gO L u' e c') := by
  refine List.Perm.trans (List.Perm.cons _ ?_) (gO_take h).symm
  have : gO (L.erase i) u e c = gO (L.erase i) u' e c' := by
    unfold gO
    refine List.map_congr_left fun j hj => ?_
    have hne : j ≠ i := fun e => by subst e; exact (List.Nodup.not_mem_erase hn) hj
    rw [hu j hne, hc j hne]
  rw [this]
theorem gO_out (h : i ∈ L) : (A ++ (gO L u e c ++ B)).Perm (hRow (u i) e RI (c i) :: (A ++ (gO (L.erase i) u e c ++ B))) := by
  refine ((List.Perm.append_right B (gO_take h)).append_left A).trans ?_
  exact List.perm_middle
theorem gO_in (hn : L.Nodup) (h : i ∈ L) {u' : ι → Value} {c' : ι → List Int} (hu : ∀ j, j ≠ i → u' j = u j) (hc : ∀ j, j ≠ i → c' j = c j) : (hRow (u' i) e RI (c' i) :: (A ++ (gO (L.erase i) u e c ++ B))).Perm (A ++ (gO L u' e c' ++ B)) := by
  refine List.perm_middle.symm.trans ?_
  exact (List.Perm.append_right B (gO_back hn h hu hc)).append_left A
end
end Go.Proofs.Ytpiidgcljlalmaa
