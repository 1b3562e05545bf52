/-
  Part 17 of the texts that the claims of this seat lean on: walks of the program's functions by contracts over symbolic frames, and plain laws of what they compute. No condition.
-/
import Derived.DeepKeys4
import Derived.Maps.Keyed
import Derived.Test.YtmlikmldfdgmcaaGreatVp7
import Derived.Test.YtmlikmldfdgmcaaGreatVp10
import Derived.Test.YtmlikmldfdgmcaaGreatVp15
import Derived.Test.YtmlikmldfdgmcaaGreatVp16
set_option linter.unusedVariables false
set_option linter.unusedSimpArgs false
set_option linter.unusedSectionVars false
namespace Go.Proofs.YtmlikmldfdgmcaaGreat
open Go.RowKit
set_option linter.unusedSimpArgs false

set_option maxHeartbeats 2000000
set_option maxRecDepth 100000
def covI (l : Cx) (s : List Vx) (i : Int) : Bool := decide (s.length < (l.getD i.toNat []).length) && faceG s (l.getD i.toNat [])
theorem cov1_p (l : Cx) (s : List Vx) (i : Int) (h0 : 0 ≤ i) (h1 : i < l.length) : Fn Tryz.prog 72 ([dI i] ++ [dP 1 false (dS Simps l), dP 1 false (dS Verts s)]) (dB (covI l s i)) := by
  obtain ⟨k, rfl⟩ : ∃ k : Nat, i = k := ⟨i.toNat, by omega⟩
  have hk : k < l.length := by omega
  have e : covI l s (k : Int) = (decide (s.length < l[k].length) && faceG s l[k]) := by
    unfold covI
    rw [Int.toNat_natCast, show l.getD k [] = l[k] by simp [List.getD, hk]]
  rw [e]
  show Fn Tryz.prog 72 [dI (k : Int), dP 1 false (dS Simps l), dP 1 false (dS Verts s)] _
  (refine Fn.intro1 Tryz.func72 rfl rfl ?_; simp only [Tryz.ntmps72, List.length_cons, List.length_nil, Nat.reduceAdd, Nat.reduceSub, List.replicate_succ, List.replicate_zero, List.cons_append, List.nil_append])
  ((repeat' (first | ((first | apply WL.opN | apply WD.opN); exact yF; dsimp only [setD, z0, z1]) | refine WL.nil ?_ | refine WD.nil ?_ | refine WC.seqK fun Kx hK => ?_ | (refine hK _ _ ?_; clear hK) | refine WC.region ?_ | (apply WC.draw; kernel_rfl; kernel_rfl) | ((first | apply WL.opG | apply WD.op); (focus (first | exact wN | (apply SYG.yes; (exact wY); ((first | (apply SY.call (face27_p _ _) Tryz.call73; (exact aD)) | exact yMove | exact yGtr | exact yLoad | exact yLen | exact yIndexaddr | exact yPick | fail); all_goals infer_instance)))); dsimp only [setD, z0, z1]) | ((first | refine WL.caseP rfl rfl rfl (fun h => ?_) (fun h => ?_) | refine WL.caseN rfl rfl rfl (fun h => ?_) (fun h => ?_) | refine WL.caseB rfl rfl rfl (fun h => ?_) (fun h => ?_) | refine WD.caseP rfl rfl rfl (fun h => ?_) (fun h => ?_) | refine WD.caseN rfl rfl rfl (fun h => ?_) (fun h => ?_) | refine WD.caseB rfl rfl rfl (fun h => ?_) (fun h => ?_)) <;> (first | (exfalso; first | omega | contradiction) | (dsimp only [z0, z1]))) | refine WC.ret ?_)); all_goals (first | ((repeat clear hK); (repeat clear Kx))))
  · rw [decide_eq_true (show s.length < l[k].length by omega), Bool.true_and]
    (refine ⟨trivial, _, rfl, ?_⟩; exact fD)
  · rw [decide_eq_false (show ¬ s.length < l[k].length by omega), Bool.false_and]
    (refine ⟨trivial, _, rfl, ?_⟩; exact fD)
abbrev MemI (l : List Int) := {v : Int // v ∈ l}
theorem coveredP_p (l : Cx) (at' : List Int) (s : List Vx) (hat : ∀ i ∈ at', 0 ≤ i ∧ i < l.length) : Fn Tryz.prog 44 [dS Simps l, dS Ints at', dS Verts s] (dB (at'.any (covI l s))) := by
  (refine Fn.intro1 Tryz.func44 rfl rfl ?_; simp only [Tryz.ntmps44, List.length_cons, List.length_nil, Nat.reduceAdd, Nat.reduceSub, List.replicate_succ, List.replicate_zero, List.cons_append, List.nil_append])
  ((repeat' (first | (apply WL.opN; exact yF; dsimp only [setD, z0, z1]) | refine WL.nil ?_ | refine WC.seqK fun Kx hK => ?_ | (refine hK _ _ ?_; clear hK) | refine WC.region ?_ | (apply WL.opN; (focus ((first | (apply SY.makeFun (A := fun v : MemI at' => [dI v.1]) (r := fun v => dB (covI l s v.1)) Tryz.call72 (fun v => cov1_p l s v.1 (hat v.1 v.2).1 (hat v.1 v.2).2) (fun _ => bare_B); (exact aD)) | (apply SY.call (cntI_p at' (covI l s)) Tryz.call58; (exact aD)) | exact yBox | fail); all_goals infer_instance)); dsimp only [setD, z0, z1]) | refine WC.ret ?_)); all_goals (first | ((repeat clear hK); (repeat clear Kx))))
  all_goals (refine ⟨trivial, _, rfl, ?_⟩; exact fD)
end Go.Proofs.YtmlikmldfdgmcaaGreat
namespace Go.Proofs.YtmlikmldfdgmcaaGreat
open Go.RowKit

def entriesM : Nat → List (Value × Value) → List MapEntry
  | _, [] => []
  | i, p :: m => ⟨p.1, p.2, i⟩ :: entriesM (i + 1) m
def mapObj (m : List (Value × Value)) : Obj := .map (entriesM 0 m).toArray m.length
theorem entriesM_len : ∀ (m : List (Value × Value)) (i : Nat), (entriesM i m).length = m.length
  | [], _ => rfl
  | _ :: m, i => by simp [entriesM, entriesM_len m]
theorem entriesM_get : ∀ (m : List (Value × Value)) (i j : Nat) (h : j < m.length), (entriesM i m)[j]'(by rw [entriesM_len]; exact h) = ⟨m[j].1, m[j].2, i + j⟩
  | [], _, j, h => by simp at h
  | p :: m, i, 0, _ => by simp [entriesM]
  | p :: m, i, j + 1, h => by
    simp only [entriesM, List.getElem_cons_succ]
    rw [entriesM_get m (i + 1) j (by simpa using h)]
    congr 1; omega
theorem entriesM_snoc : ∀ (m : List (Value × Value)) (i : Nat) (p : Value × Value), entriesM i (m ++ [p]) = entriesM i m ++ [⟨p.1, p.2, i + m.length⟩]
  | [], i, p => by simp [entriesM]
  | q :: m, i, p => by
    simp only [List.cons_append, entriesM, entriesM_snoc m (i + 1) p, List.length_cons]
    congr 4; omega
theorem entriesM_set : ∀ (m : List (Value × Value)) (i j : Nat) (p : Value × Value), entriesM i (m.set j p) = (entriesM i m).set j ⟨p.1, p.2, i + j⟩
  | [], _, _, _ => rfl
  | q :: m, i, 0, p => by simp [entriesM]
  | q :: m, i, j + 1, p => by
    simp only [List.set_cons_succ, entriesM, entriesM_set m (i + 1) j p]
    congr 3; omega
structure KeyT (P : Program) (k : TypeId) {K : Type} (kv : K → Value) (ok : K → Prop) : Prop where
  law : Go.Maps.Keyed P k
  lit : ∀ x, ok x → ∃ l, keyOf P k (kv x) = some l
  inj : ∀ x y, ok x → ok y → kv x = kv y → x = y
structure MapT (P : Program) (t k e : TypeId) (z : Value) : Prop where
  under : P.underlying t = some (.map k e)
  zero : ∀ w, (zeroValue e).run P w = .ok z w
section
variable {P : Program} {k t e : TypeId} {z : Value} {K V : Type} {kv : K → Value} {ok : K → Prop} {vv : V → Value}
def encM (kv : K → Value) (vv : V → Value) (m : List (K × V)) : List (Value × Value) := m.map fun p => (kv p.1, vv p.2)
def lookM [DecidableEq K] (m : List (K × V)) (x : K) : Option V := (m.find? fun p => decide (p.1 = x)).map (·.2)
theorem find_key (H : KeyT P k kv ok) {m : List (K × V)} (hm : ∀ p ∈ m, ok p.1) {x : K} (hx : ok x) (w : World) :
    ((Instr.findKey k (kv x) (entriesM 0 (encM kv vv m))).run P w = .ok none w ∧ ∀ p ∈ m, p.1 ≠ x) ∨
    ∃ (j : Nat) (h : j < m.length), m[j].1 = x ∧ (Instr.findKey k (kv x) (entriesM 0 (encM kv vv m))).run P w = .ok (some (j, vv m[j].2)) w := by
  obtain ⟨lx, hlx⟩ := H.lit x hx
  have hl : (encM kv vv m).length = m.length := by simp [encM]
  have hat : ∀ (j : Nat) (h : j < m.length), (entriesM 0 (encM kv vv m))[j]'(by rw [entriesM_len, hl]; exact h) = ⟨kv m[j].1, vv m[j].2, j⟩ := fun j h => by
    rw [entriesM_get _ _ _ (by rw [hl]; exact h)]
    simp [encM]
  have hk : ∀ en ∈ entriesM 0 (encM kv vv m), ∃ l, keyOf P k en.key = some l := fun en hen => by
    obtain ⟨j, hj, rfl⟩ := List.getElem_of_mem hen
    have hj' : j < m.length := by rw [entriesM_len, hl] at hj; exact hj
    rw [hat j hj']
    exact H.lit _ (hm _ (List.getElem_mem hj'))
  rcases H.law.find w hlx _ hk with ⟨h1, h2⟩ | ⟨j, en, h1, h2, h3⟩
  · refine .inl ⟨h1, fun p hp hpx => ?_⟩
    obtain ⟨j, hj, rfl⟩ := List.getElem_of_mem hp
    have hj' : j < (entriesM 0 (encM kv vv m)).length := by rw [entriesM_len, hl]; exact hj
    refine h2 _ (List.getElem_mem hj') ?_
    rw [hat j hj, hpx]
  · have hj := (List.getElem?_eq_some_iff.1 h2).1
    have hj' : j < m.length := by rw [entriesM_len, hl] at hj; exact hj
    have he : en = ⟨kv m[j].1, vv m[j].2, j⟩ := by rw [← hat j hj', (List.getElem?_eq_some_iff.1 h2).2]
    refine .inr ⟨j, hj', H.inj _ _ (hm _ (List.getElem_mem hj')) hx ?_, ?_⟩
    · rw [← h3, he]
    · rw [h1, he]
section
variable [DecidableEq K]
theorem lookM_none {m : List (K × V)} {x : K} (h : ∀ p ∈ m, p.1 ≠ x) : lookM m x = none := by
  unfold lookM
  rw [List.find?_eq_none.2 (fun p hp => by simpa using h p hp)]; rfl
theorem lookM_some {m : List (K × V)} (hn : (m.map (·.1)).Nodup) {j : Nat} (h : j < m.length) : lookM m m[j].1 = some m[j].2 := by
  induction m generalizing j with
  | nil => simp at h
  | cons p m ih =>
    rw [List.map_cons, List.nodup_cons] at hn
    cases j with
    | zero => simp [lookM]
    | succ j =>
      have hj : j < m.length := by simpa using h
      have hne : ¬ p.1 = m[j].1 := fun e => hn.1 (e ▸ List.mem_map_of_mem (List.getElem_mem hj))
      have := ih hn.2 hj
      unfold lookM at this ⊢
      simp only [List.getElem_cons_succ]
      rw [List.find?_cons_of_neg (by simpa using hne)]
      exact this
def putM (m : List (K × V)) (x : K) (v : V) : List (K × V) := if (lookM m x).isSome then m.map fun p => if p.1 = x then (x, v) else p else m ++ [(x, v)]
theorem putM_new {m : List (K × V)} {x : K} {v : V} (h : ∀ p ∈ m, p.1 ≠ x) : putM m x v = m ++ [(x, v)] := by
  unfold putM; rw [lookM_none h]; rfl
theorem putM_set {m : List (K × V)} (hn : (m.map (·.1)).Nodup) {v : V} {j : Nat} (h : j < m.length) : putM m m[j].1 v = m.set j (m[j].1, v) := by
  unfold putM
  rw [lookM_some hn h]
  simp only [Option.isSome_some, if_true]
  apply List.ext_getElem (by simp)
  intro i h1 h2
  have hi : i < m.length := by simpa using h1
  rw [List.getElem_map, List.getElem_set]
  by_cases hij : j = i
  · subst hij; simp
  · rw [if_neg hij, if_neg]
    intro e
    refine hij ?_
    have h1 : (m.map (·.1))[i]'(by simpa using hi) = (m.map (·.1))[j]'(by simpa using h) := by simpa using e
    exact ((List.getElem_inj hn).1 h1).symm
theorem run_lookup (T : MapT P t k e z) (H : KeyT P k kv ok) {m : List (K × V)} (hm : ∀ p ∈ m, ok p.1) (hn : (m.map (·.1)).Nodup) {x : K} (hx : ok x) {w : World} {b : Nat} (hb : w.heap[b]? = some (mapObj (encM kv vv m))) (c : Bool) :
    (Instr.lookup t (.map (some b)) (kv x) c).run P w = .ok (if c then .tuple #[((lookM m x).map vv).getD z, .bool (lookM m x).isSome] else ((lookM m x).map vv).getD z) w := by
  obtain ⟨lx, hlx⟩ := H.lit x hx
  have hg := MapKept.run_getObj_map (P := P) (show w.heap[b]? = some (.map _ _) from hb)
  rcases find_key (vv := vv) H hm hx w with ⟨h1, h2⟩ | ⟨j, hj, h1, h2⟩
  · rw [lookM_none h2]
    simp [Instr.lookup, run_underlying T.under, hg, H.law.check w _ hlx, h1, T.zero, Result.andThen]
  · subst h1
    rw [lookM_some hn hj]
    simp [Instr.lookup, run_underlying T.under, hg, H.law.check w _ hlx, h2, Result.andThen]
theorem run_update (T : MapT P t k e z) (H : KeyT P k kv ok) {m : List (K × V)} (hm : ∀ p ∈ m, ok p.1) (hn : (m.map (·.1)).Nodup) {x : K} (hx : ok x) (v : V) {w : World} {b : Nat} (hb : w.heap[b]? = some (mapObj (encM kv vv m))) :
    (Instr.mapUpdate t (.map (some b)) (kv x) (vv v)).run P w = .ok () { w with heap := w.heap.setIfInBounds b (mapObj (encM kv vv (putM m x v))) } := by
  obtain ⟨lx, hlx⟩ := H.lit x hx
  have hl : (encM kv vv m).length = m.length := by simp [encM]
  have hg := MapKept.run_getObj_map (P := P) (show w.heap[b]? = some (.map _ _) from hb)
  rcases find_key (vv := vv) H hm hx w with ⟨h1, h2⟩ | ⟨j, hj, h1, h2⟩
  · have e1 : mapObj (encM kv vv (putM m x v)) = .map ((entriesM 0 (encM kv vv m)).toArray.push ⟨kv x, vv v, (encM kv vv m).length⟩) ((encM kv vv m).length + 1) := by
      rw [putM_new h2]
      unfold mapObj
      rw [show encM kv vv (m ++ [(x, v)]) = encM kv vv m ++ [(kv x, vv v)] by simp [encM], entriesM_snoc]
      simp
    rw [e1]
    simp [Instr.mapUpdate, run_underlying T.under, hg, H.law.check w _ hlx, h1, MapKept.run_setObj_map _ (show w.heap[b]? = some (.map _ _) from hb), Result.andThen]
  · subst h1
    have hj' : j < (entriesM 0 (encM kv vv m)).length := by rw [entriesM_len, hl]; exact hj
    have hat : (entriesM 0 (encM kv vv m))[j]? = some ⟨kv m[j].1, vv m[j].2, 0 + j⟩ := by
      rw [List.getElem?_eq_getElem hj', entriesM_get _ _ _ (by rw [hl]; exact hj)]
      simp [encM]
    have e1 : mapObj (encM kv vv (putM m m[j].1 v)) = .map ((entriesM 0 (encM kv vv m)).toArray.modify j fun en => { en with key := kv m[j].1, val := vv v }) (encM kv vv m).length := by
      rw [putM_set hn hj]
      unfold mapObj
      rw [show encM kv vv (m.set j (m[j].1, v)) = (encM kv vv m).set j (kv m[j].1, vv v) by simp [encM, List.map_set], entriesM_set, List.length_set]
      congr 1
      apply Array.ext'
      rw [Array.toList_modify, ChangeMaps.modify_eq_set _ _ _ _ (by simpa using hat)]
      simp
    rw [e1]
    simp [Instr.mapUpdate, run_underlying T.under, hg, H.law.check w _ hlx, h2, hat, H.law.stays w hlx, MapKept.run_setObj_map _ (show w.heap[b]? = some (.map _ _) from hb), Result.andThen]
omit [DecidableEq K] in
theorem mapObj_set {m : List (K × V)} {j : Nat} (hj : j < m.length) (f : MapEntry → MapEntry) (x : K) (v : V) (hf : ∀ i, f ⟨kv m[j].1, vv m[j].2, i⟩ = ⟨kv x, vv v, i⟩) :
    mapObj (encM kv vv (m.set j (x, v))) = .map ((entriesM 0 (encM kv vv m)).toArray.modify j f) (encM kv vv m).length := by
  have hl : (encM kv vv m).length = m.length := by simp [encM]
  have hj' : j < (entriesM 0 (encM kv vv m)).length := by rw [entriesM_len, hl]; exact hj
  have hat : (entriesM 0 (encM kv vv m))[j]? = some ⟨kv m[j].1, vv m[j].2, 0 + j⟩ := by
    rw [List.getElem?_eq_getElem hj', entriesM_get _ _ _ (by rw [hl]; exact hj)]
    simp [encM]
  unfold mapObj
  rw [show encM kv vv (m.set j (x, v)) = (encM kv vv m).set j (kv x, vv v) by simp [encM, List.map_set], entriesM_set, List.length_set]
  congr 1
  apply Array.ext'
  rw [Array.toList_modify, ChangeMaps.modify_eq_set _ _ _ _ (by simpa using hat), hf]
  simp
omit [DecidableEq K] in
theorem run_entry (T : MapT P t k e z) (H : KeyT P k kv ok) {m : List (K × V)} (hm : ∀ p ∈ m, ok p.1) {x : K} (hx : ok x) {w : World} {b : Nat} (hb : w.heap[b]? = some (mapObj (encM kv vv m))) :
    (∃ (j : Nat) (h : j < m.length), m[j].1 = x ∧ (Instr.mapEntry t (.map (some b)) (kv x)).run P w = .ok (.tuple #[vv m[j].2, .int .i64 j]) { w with heap := w.heap.setIfInBounds b (mapObj (encM kv vv m)) }) ∨
    ((∀ p ∈ m, p.1 ≠ x) ∧ ∀ zv, vv zv = z → (Instr.mapEntry t (.map (some b)) (kv x)).run P w = .ok (.tuple #[z, .int .i64 m.length]) { w with heap := w.heap.setIfInBounds b (mapObj (encM kv vv (m ++ [(x, zv)]))) }) := by
  obtain ⟨lx, hlx⟩ := H.lit x hx
  have hl : (encM kv vv m).length = m.length := by simp [encM]
  have hg := MapKept.run_getObj_map (P := P) (show w.heap[b]? = some (.map _ _) from hb)
  rcases find_key (vv := vv) H hm hx w with ⟨h1, h2⟩ | ⟨j, hj, h1, h2⟩
  · refine .inr ⟨h2, fun zv hz => ?_⟩
    have e1 : mapObj (encM kv vv (m ++ [(x, zv)])) = .map ((entriesM 0 (encM kv vv m)).toArray.push ⟨kv x, z, (encM kv vv m).length⟩) ((encM kv vv m).length + 1) := by
      unfold mapObj
      rw [show encM kv vv (m ++ [(x, zv)]) = encM kv vv m ++ [(kv x, z)] by simp [encM, hz], entriesM_snoc]
      simp
    rw [e1]
    simp [Instr.mapEntry, run_underlying T.under, hg, H.law.check w _ hlx, h1, T.zero, MapKept.run_setObj_map _ (show w.heap[b]? = some (.map _ _) from hb), Result.andThen, goInt, hl]
  · refine .inl ⟨j, hj, h1, ?_⟩
    subst h1
    have hj' : j < (entriesM 0 (encM kv vv m)).length := by rw [entriesM_len, hl]; exact hj
    have hat : (entriesM 0 (encM kv vv m))[j]? = some ⟨kv m[j].1, vv m[j].2, 0 + j⟩ := by
      rw [List.getElem?_eq_getElem hj', entriesM_get _ _ _ (by rw [hl]; exact hj)]
      simp [encM]
    have e1 := mapObj_set (kv := kv) (vv := vv) hj (fun en => { en with key := kv m[j].1 }) m[j].1 m[j].2 (fun _ => rfl)
    have e2 : m.set j (m[j].1, m[j].2) = m := List.set_getElem_self hj
    rw [e2] at e1
    rw [e1]
    simp [Instr.mapEntry, run_underlying T.under, hg, H.law.check w _ hlx, h2, hat, H.law.stays w hlx, MapKept.run_setObj_map _ (show w.heap[b]? = some (.map _ _) from hb), Result.andThen, goInt]
omit [DecidableEq K] in
theorem run_entryStore {m : List (K × V)} {j : Nat} (hj : j < m.length) (v : V) {w : World} {b : Nat} (hb : w.heap[b]? = some (mapObj (encM kv vv m))) :
    (Instr.entryStore t (.map (some b)) (.int .i64 j) (vv v)).run P w = .ok () { w with heap := w.heap.setIfInBounds b (mapObj (encM kv vv (m.set j (m[j].1, v)))) } := by
  have hl : (encM kv vv m).length = m.length := by simp [encM]
  have hg := MapKept.run_getObj_map (P := P) (show w.heap[b]? = some (.map _ _) from hb)
  have hf : (entriesM 0 (encM kv vv m)).findIdx? (fun en => (en.born : Int) == (j : Int)) = some j := by
    have hlen : (entriesM 0 (encM kv vv m)).length = m.length := by rw [entriesM_len, hl]
    have hat : ∀ (i : Nat) (h : i < m.length), (entriesM 0 (encM kv vv m))[i]'(by rw [hlen]; exact h) = ⟨kv m[i].1, vv m[i].2, i⟩ := fun i h => by
      rw [entriesM_get _ _ _ (by rw [hl]; exact h)]
      simp [encM]
    rw [List.findIdx?_eq_some_iff_getElem]
    refine ⟨by rw [hlen]; exact hj, ?_, fun i hi => ?_⟩
    · rw [hat j hj]; exact beq_self_eq_true _
    · rw [hat i (by omega)]; show ¬ ((i : Int) == (j : Int)) = true; rw [beq_iff_eq]; omega
  rw [mapObj_set hj (fun en => { en with val := vv v }) m[j].1 v (fun _ => rfl)]
  simp [Instr.entryStore, hg, asInt, asIntOf, hf, MapKept.run_setObj_map _ (show w.heap[b]? = some (.map _ _) from hb), Result.andThen]
end
end
end Go.Proofs.YtmlikmldfdgmcaaGreat
namespace Go.Proofs.YtmlikmldfdgmcaaGreat
theorem dropWhile_split (v : Vx) : ∀ b : List Vx, (v ∉ b ∧ (b.dropWhile fun x => decide (x ≠ v)) = []) ∨ ∃ pre c, b = pre ++ v :: c ∧ v ∉ pre ∧ (b.dropWhile fun x => decide (x ≠ v)) = v :: c
  | [] => .inl ⟨by simp, rfl⟩
  | x :: b => by
    by_cases hx : x = v
    · subst hx
      exact .inr ⟨[], b, rfl, by simp, by rw [List.dropWhile_cons_of_neg (by simp)]⟩
    · rw [List.dropWhile_cons_of_pos (by simpa using hx)]
      rcases dropWhile_split v b with ⟨h1, h2⟩ | ⟨pre, c, h1, h2, h3⟩
      · exact .inl ⟨by simp [h1, Ne.symm hx], h2⟩
      · exact .inr ⟨x :: pre, c, by rw [h1]; rfl, by simp [h2, Ne.symm hx], h3⟩
theorem cmpV_irr (v : Vx) : cmpV v v = 0 := cmpV_eq.2 rfl
theorem faceG_inside : ∀ (a b : List Vx), Asc a → Asc b → faceG a b = insideV a b
  | [], b, _, _ => rfl
  | v :: a, b, ha, hb => by
    have ha' := ha
    unfold Asc at ha'
    rw [List.pairwise_cons] at ha'
    unfold faceG
    rcases dropWhile_split v b with ⟨h1, h2⟩ | ⟨pre, c, h1, h2, h3⟩
    · rw [if_pos h2]
      unfold insideV
      simp [h1]
    · rw [h3, if_neg (by simp)]
      have hb' := hb
      unfold Asc at hb'
      rw [h1, List.pairwise_append] at hb'
      rw [faceG_inside a (v :: c) ha'.2 hb'.2.1]
      have hv : v ∈ b := by rw [h1]; simp
      unfold insideV
      rw [List.all_cons, decide_eq_true hv, Bool.true_and, Bool.eq_iff_iff, List.all_eq_true, List.all_eq_true]
      constructor
      · intro h x hx
        have := h x hx
        simp only [decide_eq_true_eq] at this ⊢
        rw [h1]; exact List.mem_append.2 (.inr this)
      · intro h x hx
        have := h x hx
        simp only [decide_eq_true_eq] at this ⊢
        rw [h1] at this
        rcases List.mem_append.1 this with hp | hp
        · have h5 := hb'.2.2 x hp v (by simp)
          have h6 := cmpV_trans h5 (ha'.1 x hx)
          rw [cmpV_irr] at h6; omega
        · exact hp
def addI (m : List (Vx × List Int)) (v : Vx) (i : Int) : List (Vx × List Int) := putM m v ((lookM m v).getD [] ++ [i])
def incS (m : List (Vx × List Int)) (s : List Vx) (i : Int) : List (Vx × List Int) := s.foldl (fun m v => addI m v i) m
def incC (l : Cx) : List (Vx × List Int) := (l.zipIdx).foldl (fun m p => incS m p.1 (p.2 : Int)) []
theorem incS_snoc {m : List (Vx × List Int)} {s : List Vx} {i : Int} {j : Nat} (h : j < s.length) : incS m (s.take (j + 1)) i = addI (incS m (s.take j) i) s[j] i := by
  unfold incS; rw [take_snoc' h, List.foldl_append]; rfl
theorem incC_snoc {l : Cx} {i : Nat} (h : i < l.length) : incC (l.take (i + 1)) = incS (incC (l.take i)) l[i] (i : Int) := by
  unfold incC
  rw [take_snoc' h, List.zipIdx_append, List.foldl_append]
  simp [List.length_take, Nat.min_eq_left (Nat.le_of_lt h)]
def atM (m : List (Vx × List Int)) (v : Vx) : List Int := (lookM m v).getD []
theorem lookM_putM {K V : Type} [DecidableEq K] {m : List (K × V)} {x y : K} {v : V} : lookM (putM m x v) y = if y = x then some v else lookM m y := by
  unfold putM
  by_cases h : (lookM m x).isSome
  · rw [if_pos h]
    induction m with
    | nil => simp [lookM] at h
    | cons p m ih =>
      rw [List.map_cons]
      by_cases hp : p.1 = x
      · rw [if_pos hp]
        by_cases hy : y = x
        · rw [if_pos hy]; unfold lookM
          rw [List.find?_cons_of_pos (by simp [hy])]; rfl
        · rw [if_neg hy]; unfold lookM
          rw [List.find?_cons_of_neg (by simpa using Ne.symm hy), List.find?_cons_of_neg (by rw [hp]; simpa using Ne.symm hy)]
          clear ih h hp
          induction m with
          | nil => rfl
          | cons q m ih =>
            rw [List.map_cons]
            by_cases hq : q.1 = x
            · rw [if_pos hq, List.find?_cons_of_neg (by simpa using Ne.symm hy), List.find?_cons_of_neg (by rw [hq]; simpa using Ne.symm hy)]
              exact ih
            · rw [if_neg hq]
              by_cases hqy : q.1 = y
              · rw [List.find?_cons_of_pos (by simpa using hqy), List.find?_cons_of_pos (by simpa using hqy)]
              · rw [List.find?_cons_of_neg (by simpa using hqy), List.find?_cons_of_neg (by simpa using hqy)]
                exact ih
      · rw [if_neg hp]
        have h' : (lookM m x).isSome := by
          unfold lookM at h ⊢
          rwa [List.find?_cons_of_neg (by simpa using hp)] at h
        have := ih h'
        unfold lookM at this ⊢
        by_cases hpy : p.1 = y
        · have hyx : y ≠ x := fun e => hp (hpy.trans e)
          rw [List.find?_cons_of_pos (by simpa using hpy), if_neg hyx, List.find?_cons_of_pos (by simpa using hpy)]
        · rw [List.find?_cons_of_neg (by simpa using hpy), List.find?_cons_of_neg (by simpa using hpy)]
          exact this
  · rw [if_neg h]
    have h0 : lookM m x = none := by simpa using h
    unfold lookM at h0 ⊢
    rw [List.find?_append]
    by_cases hy : y = x
    · subst hy
      rw [if_pos rfl]
      have : m.find? (fun p => decide (p.1 = y)) = none := by simpa using h0
      rw [this]; simp
    · rw [if_neg hy, List.find?_cons_of_neg (by simpa using Ne.symm hy)]
      simp
theorem atM_addI {m : List (Vx × List Int)} {v u : Vx} {i : Int} : atM (addI m v i) u = if u = v then atM m v ++ [i] else atM m u := by
  unfold atM addI
  rw [lookM_putM]
  split <;> rfl
theorem mem_incS {i j : Int} {v : Vx} : ∀ {s : List Vx} {m : List (Vx × List Int)}, j ∈ atM (incS m s i) v ↔ j ∈ atM m v ∨ (j = i ∧ v ∈ s)
  | [], m => by simp [incS]
  | u :: s, m => by
    show j ∈ atM (incS (addI m u i) s i) v ↔ _
    rw [mem_incS (s := s), atM_addI]
    by_cases hv : v = u
    · subst hv
      rw [if_pos rfl, List.mem_append, List.mem_singleton, List.mem_cons]
      constructor
      · rintro ((h | h) | h)
        · exact .inl h
        · exact .inr ⟨h, .inl rfl⟩
        · exact .inr ⟨h.1, .inr h.2⟩
      · rintro (h | h)
        · exact .inl (.inl h)
        · exact .inl (.inr h.1)
    · rw [if_neg hv, List.mem_cons]; simp [hv]
theorem mem_incC_take {l : Cx} {j : Int} {v : Vx} : ∀ {n : Nat}, n ≤ l.length → (j ∈ atM (incC (l.take n)) v ↔ ∃ (k : Nat) (h : k < l.length), k < n ∧ j = k ∧ v ∈ l[k])
  | 0, _ => by simp [incC, atM, lookM]
  | n + 1, hn => by
    rw [incC_snoc (by omega), mem_incS, mem_incC_take (by omega)]
    constructor
    · rintro (⟨k, h, h1, h2, h3⟩ | ⟨h1, h2⟩)
      · exact ⟨k, h, by omega, h2, h3⟩
      · exact ⟨n, by omega, by omega, h1, h2⟩
    · rintro ⟨k, h, h1, h2, h3⟩
      by_cases hk : k = n
      · subst hk; exact .inr ⟨h2, h3⟩
      · exact .inl ⟨k, h, by omega, h2, h3⟩
theorem mem_incC {l : Cx} {j : Int} {v : Vx} : j ∈ atM (incC l) v ↔ ∃ (k : Nat) (h : k < l.length), j = k ∧ v ∈ l[k] := by
  have := mem_incC_take (l := l) (j := j) (v := v) (Nat.le_refl _)
  rw [List.take_length] at this
  rw [this]
  exact ⟨fun ⟨k, h, _, h2, h3⟩ => ⟨k, h, h2, h3⟩, fun ⟨k, h, h2, h3⟩ => ⟨k, h, h, h2, h3⟩⟩
theorem atM_bnd {l : Cx} {v : Vx} : ∀ i ∈ atM (incC l) v, 0 ≤ i ∧ i < l.length := fun i hi => by
  obtain ⟨k, h, rfl, _⟩ := mem_incC.1 hi
  omega
theorem anyCov {l : Cx} (h : ∀ s ∈ l, chkV s = 0) {s : List Vx} (hs : chkV s = 0) {v : Vx} (hv : v ∈ s) : (atM (incC l) v).any (covI l s) = coveredC l s := by
  have asc : ∀ s ∈ l, Asc s := fun s hs => (chkV_zero.1 (h s hs)).2.2.2
  rw [Bool.eq_iff_iff, List.any_eq_true, coveredC_iff]
  constructor
  · rintro ⟨i, hi, hc⟩
    obtain ⟨k, hk, rfl, _⟩ := mem_incC.1 hi
    have hm := List.getElem_mem hk
    unfold covI at hc
    rw [Int.toNat_natCast, show l.getD k [] = l[k] by simp [List.getD, hk], Bool.and_eq_true, decide_eq_true_eq, faceG_inside _ _ (chkV_zero.1 hs).2.2.2 (asc _ hm)] at hc
    exact ⟨l[k], hm, hc.1, hc.2⟩
  · rintro ⟨x, hx, h1, h2⟩
    obtain ⟨k, hk, rfl⟩ := List.getElem_of_mem hx
    refine ⟨(k : Int), mem_incC.2 ⟨k, hk, rfl, ?_⟩, ?_⟩
    · unfold insideV at h2
      have := List.all_eq_true.1 h2 v hv
      simpa using this
    · unfold covI
      rw [Int.toNat_natCast, show l.getD k [] = l[k] by simp [List.getD, hk], Bool.and_eq_true, decide_eq_true_eq, faceG_inside _ _ (chkV_zero.1 hs).2.2.2 (asc _ hx)]
      exact ⟨h1, h2⟩
end Go.Proofs.YtmlikmldfdgmcaaGreat
namespace Go.Proofs.YtmlikmldfdgmcaaGreat
theorem mem_shared {a b : List Vx} {p : Bool} {x : Vx} : x ∈ sharedV a b p ↔ x ∈ a ∧ decide (x ∈ b) = p := by unfold sharedV; rw [List.mem_filter]; simp
theorem shared_sub {a b : List Vx} {p : Bool} : (sharedV a b p).Sublist a := List.filter_sublist
theorem asc_shared {a b : List Vx} {p : Bool} (h : Asc a) : Asc (sharedV a b p) := List.Pairwise.sublist shared_sub h
theorem sub_good {a s : List Vx} (ha : chkV a = 0) (hs : s.Sublist a) (hne : s ≠ []) : chkV s = 0 := by
  obtain ⟨h1, h2, h3, h4⟩ := chkV_zero.1 ha
  refine chkV_zero.2 ⟨fun h => hne (List.eq_nil_of_length_eq_zero h), Nat.le_trans hs.length_le h2, fun v hv => h3 v (hs.subset hv), List.Pairwise.sublist hs h4⟩
theorem ne_nil {s : List Vx} (h : 0 < s.length) : s ≠ [] := fun e => by subst e; simp at h
end Go.Proofs.YtmlikmldfdgmcaaGreat
namespace Go.Proofs.YtmlikmldfdgmcaaGreat
theorem subsV_mem : ∀ (k : Nat) (s x : List Vx), x ∈ subsV k s ↔ x.Sublist s ∧ x.length = k
  | 0, s, x => by
    have : subsV 0 s = [[]] := by unfold subsV; rfl
    rw [this, List.mem_singleton]
    constructor
    · rintro rfl; exact ⟨List.nil_sublist _, rfl⟩
    · rintro ⟨_, h⟩; exact List.eq_nil_of_length_eq_zero h
  | k + 1, [], x => by
    simp only [subsV, List.not_mem_nil, List.sublist_nil, false_iff]
    rintro ⟨rfl, h⟩; simp at h
  | k + 1, v :: s, x => by
    unfold subsV
    rw [List.mem_append, List.mem_map, subsV_mem (k + 1) s x]
    constructor
    · rintro (⟨y, hy, rfl⟩ | ⟨h1, h2⟩)
      · obtain ⟨h1, h2⟩ := (subsV_mem k s y).1 hy
        exact ⟨h1.cons_cons v, by simp [h2]⟩
      · exact ⟨h1.cons v, h2⟩
    · rintro ⟨h1, h2⟩
      rcases List.sublist_cons_iff.1 h1 with h | ⟨y, rfl, h⟩
      · exact .inr ⟨h, h2⟩
      · exact .inl ⟨y, (subsV_mem k s y).2 ⟨h, by simpa using h2⟩, rfl⟩
theorem subsV_zero (s : List Vx) : (subsV 0 s).length = 1 := by unfold subsV; rfl
theorem subsV_next (k : Nat) (v : Vx) (s : List Vx) : (subsV (k + 1) (v :: s)).length = (subsV k s).length + (subsV (k + 1) s).length := by
  conv => lhs; unfold subsV
  rw [List.length_append, List.length_map]
theorem subsV_card : ∀ (s : List Vx) (k : Nat), (subsV (k + 1) s).length * (k + 1) + (subsV k s).length * k = (subsV k s).length * s.length
  | [], 0 => by simp [subsV]
  | [], k + 1 => by simp [subsV]
  | v :: s, 0 => by
    have := subsV_card s 0
    rw [subsV_next, subsV_zero, subsV_zero] at *
    simp only [List.length_cons]
    omega
  | v :: s, k + 1 => by
    have h1 := subsV_card s k
    have h2 := subsV_card s (k + 1)
    rw [subsV_next, subsV_next]
    generalize (subsV k s).length = a at *
    generalize (subsV (k + 1) s).length = b at *
    generalize (subsV (k + 1 + 1) s).length = c at *
    simp only [List.length_cons]
    generalize s.length = n at *
    simp only [Nat.mul_add, Nat.add_mul, Nat.mul_one] at *
    omega
theorem subsV_all : ∀ (s : List Vx), (subsV s.length s).length = 1
  | [] => rfl
  | v :: s => by
    rw [List.length_cons, subsV_next, subsV_all s, subsV_short (s.length + 1) s (by omega)]; rfl
theorem subsV_most {s : List Vx} {k : Nat} (h : s.length = k + 1) : (subsV k s).length = k + 1 := by
  have h1 := subsV_card s k
  have h2 := subsV_all s
  rw [h] at h1 h2
  rw [h2] at h1
  simp only [Nat.mul_add, Nat.mul_one, Nat.one_mul] at h1
  omega
theorem cmpL_cons (v : Vx) (a b : List Vx) : cmpL (v :: a) (v :: b) = cmpL a b := by
  conv => lhs; unfold cmpL
  rw [if_pos (cmpV_eq.2 rfl)]
theorem subsV_sorted : ∀ (k : Nat) (s : List Vx), Asc s → (subsV k s).Pairwise fun a b => cmpL a b = -1
  | 0, s, _ => by unfold subsV; exact List.pairwise_singleton _ _
  | k + 1, [], _ => by unfold subsV; exact List.Pairwise.nil
  | k + 1, v :: s, h => by
    obtain ⟨h1, h2⟩ := List.pairwise_cons.1 h
    unfold subsV
    rw [List.pairwise_append]
    refine ⟨List.pairwise_map.2 (List.Pairwise.imp (fun {a b} hab => by rw [cmpL_cons]; exact hab) (subsV_sorted k s h2)), subsV_sorted (k + 1) s h2, fun a ha b hb => ?_⟩
    obtain ⟨a', _, rfl⟩ := List.mem_map.1 ha
    obtain ⟨hb1, hb2⟩ := (subsV_mem _ _ _).1 hb
    match b, hb1, hb2 with
    | w :: b', hb1, _ =>
      have hw : w ∈ s := hb1.subset (by simp)
      have hvw := h1 w hw
      have := cmpV_range v w
      unfold cmpL
      rw [if_neg (by omega)]
      omega
theorem face_good {a s : List Vx} {k : Nat} (hs : chkV s = 0) (hk : 0 < k) (h : a ∈ subsV k s) : chkV a = 0 ∧ a.Sublist s ∧ a.length = k := by
  obtain ⟨h1, h2⟩ := (subsV_mem _ _ _).1 h
  exact ⟨sub_good hs h1 (ne_nil (by omega)), h1, h2⟩
theorem facesV_good {s : List Vx} (hs : chkV s = 0) {k : Nat} (h1 : 0 < k) (h2 : k ≤ s.length) : facesV s k = (subsV k s, 0) := by
  unfold facesV
  rw [if_neg (by simp [hs]), if_neg (by omega)]
  simp
end Go.Proofs.YtmlikmldfdgmcaaGreat
