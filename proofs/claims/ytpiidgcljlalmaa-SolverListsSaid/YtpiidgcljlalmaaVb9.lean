/- Part 9: walks by contracts, and plain laws. -/
import Derived.Test.YtpiidgcljlalmaaVb3
set_option linter.unusedVariables false
set_option linter.unusedSimpArgs false
set_option linter.unusedSectionVars false
namespace Go.Proofs.Ytpiidgcljlalmaa
open Go.RowKit
section
variable {P : Program} {ops : Array Oper} {hp : List HObj} {fr : List Dat} {Q : Post} {rest : List Oper} {dst : Option Tmp} {ty : TypeId} {ps : String} {af : Array Edge} {t e : TypeId} {z : Value} {bytes : Nat}
theorem WL.litR {α : Type} {R : Rel α} {_gR : Good R} {len : Nat} {parts : Array (Nat × Operand)} {els : List α} (E : ElT P t e 1 z bytes false) (hx : ElsD fr R (parts.toList.map Prod.snd) els) (hparts : parts.toList = ((parts.toList.map Prod.snd).zipIdx).map (fun p => (p.2, p.1))) (hl : len = els.length) (hs : ∀ a, (dS R a).Shape 1 false) (hsm : els.length * 1 ≤ 16777216)
    (h : ∀ v, WL P ops Q rest (setD fr dst (dX v)) (hRow v e R els :: hp)) : WL P ops Q ({ dst := dst, op := .buildSlice t len parts, type := ty, pos := ps, after := af, guard := none } :: rest) fr hp := by
  refine WL.of fun P0 B w0 w a hh hf => ?_
  obtain ⟨css, hr, hcl, hcn, hel⟩ := build_core (ops := ops) (dst := dst) (ty := ty) (ps := ps) (af := af) (g := none) E hx hl hparts hs hsm hh (hf.on _)
  refine wpList_value rfl hr ?_
  have hx := Ext.of_alloc w (.cells css.flatten.toArray e)
  have hob : ∀ k, (hRow (.slice (some ⟨w.heap.size, 0, none⟩) els.length els.length) e R els).blk = some k → w.heap.size ≤ k ∧ k < (w.alloc (.cells css.flatten.toArray e)).heap.size := fun k hk => by
    cases hk
    exact ⟨Nat.le_refl _, by simp⟩
  have hfl : css.flatten.length = els.length * 1 := by rw [flatten_len (n := 1) fun u hu => (hcn u hu).1, hcl]
  have h1 : ∀ u ∈ css.flatten, u.oneCell' = true := fun u hu => by
    obtain ⟨cs, hcs, hu'⟩ := List.mem_flatten.1 hu
    exact (hcn cs hcs).2 u hu'
  refine (h _).on (hh.push (o := hRow (.slice (some ⟨w.heap.size, 0, none⟩) els.length els.length) e R els) hx hob ⟨css.flatten, by omega, ⟨hfl, .inr ⟨w.heap.size, els.length, css.flatten.toArray, rfl, Nat.zero_le _, alloc_get w _, Nat.le_refl _, by simp only [maxLen]; omega, by simpa using hfl, ?_⟩⟩, fun k h h' => ?_⟩) (Fr.put (hf.mono fun d _ hd => Hp.pushed hx (fun k hk => (hob k hk).1) hd) rfl)
  · show css.flatten.take _ = css.flatten
    rw [← hfl, List.take_length]
  · have hkc : k < css.length := by omega
    obtain ⟨u, hu, hR⟩ := hel k css[k] els[k] (List.getElem?_eq_getElem hkc) (List.getElem?_eq_getElem h')
    simp only [Bool.false_eq_true, if_false] at hu
    have hfk : css.flatten[k]? = some u := by
      have := flatten_get (us := css) (n := 1) (k := k) (j := 0) (c := u) (fun u hu => (hcn u hu).1) hkc (by rw [hu]; rfl)
      simpa using this
    have hku : css.flatten[k] = u := by
      rw [List.getElem?_eq_getElem h] at hfk
      exact Option.some.inj hfk
    refine ⟨h1 _ (List.getElem_mem h), ?_⟩
    rw [hku]
    exact Good.ext (R := R) (Good.weak (Good.bound hR) fun j hj => ⟨hj, fun e => by cases e; exact absurd hj.2 (Nat.lt_irrefl _)⟩) hx
end
theorem all_le {l : List (List Int)} : ∀ (n : Nat) (a : List Int), (allF n l a).length ≤ 2 ^ n
  | 0, a => by unfold allF; split <;> simp
  | n + 1, a => by
    unfold allF
    rw [List.length_append, Nat.pow_succ]
    have h1 := all_le (l := l) n (a ++ [(a.length : Int) + 1])
    have h2 := all_le (l := l) n (a ++ [-((a.length : Int) + 1)])
    omega
def wrongI (l : List (List Int)) (a : List Int) : Int := idxG (fun c => !trueI c a) 0 l
theorem wrongI_neg (l : List (List Int)) (a : List Int) : decide (wrongI l a < 0) = l.all fun c => trueI c a := by
  have := idxG_iff (p := fun c => !trueI c a) l 0
  unfold wrongI
  have h2 : (l.all fun c => trueI c a) = !(l.any fun c => !trueI c a) := by
    clear this
    induction l with
    | nil => rfl
    | cons c l ih => rw [List.all_cons, List.any_cons, ih, Bool.not_or, Bool.not_not]
  rw [h2, ← this, ← decide_not]
  exact decide_eq_decide.2 (by omega)
theorem CallC.froz0 {P : Program} {f : FuncId} {ds : List Dat} {e : TypeId} {α : Type} {R : Rel α} {_gR : Good R} {xs : List α} (h : CallC P f ds [] fun d hp2 => ∃ v, d = dX v ∧ hp2 = [hRow v e R xs]) : CallC P f ds [] fun d hp2 => d = dS (Arr R) xs ∧ hp2 = [] := ⟨fun P0 B w0 hp vs W hh hl hv => by
  refine Calls.mono (h.out P0 B w0 hp vs W hh hl hv) fun e' W' ⟨v, d, hp2, he, hk, hh2, hd⟩ => ?_
  obtain ⟨u, rfl, rfl⟩ := hk
  have hvu : v = u := hd
  refine ⟨v, _, _, he, ⟨rfl, rfl⟩, hh2.drop, ?_⟩
  rw [hvu]
  exact Own.keep hh2⟩
set_option linter.unusedSimpArgs false
set_option linter.unusedVariables false
set_option maxHeartbeats 2000000
set_option maxRecDepth 100000
theorem wrong43_p (l : List (List Int)) (a : List Int) : Fn Try.prog 83 [dS Rows l, dS Ints a] (dI (wrongI l a)) := by
  (refine Fn.intro1 Try.func83 rfl rfl ?_; simp only [Try.ntmps83, List.length_cons, List.length_nil, Nat.reduceAdd, Nat.reduceSub, List.replicate_succ, List.replicate_zero, List.cons_append, List.nil_append])
  (repeat' (first | (apply WL.opN; exact yF; dsimp only [setD, z0, z1]) | refine WL.nil ?_ | refine WC.seqK fun Kx hK => ?_ | (refine hK _ _ ?_; clear hK) | refine WC.region ?_ | refine WC.block ?_))
  (first | refine WC.know (t := 0) rfl le_K fun hl0 => ?_ | refine WC.know (t := 0) rfl le_A fun hl0 => ?_); simp only [maxLen] at hl0
  (refine WC.loopU (X := Nat) (fun k => [(5, dI (k : Int)), (4, dA), (6, dA), (7, dA), (8, dA), (9, dA), (10, dA), (11, dA), (12, dA), (13, dA), (14, dA), (15, dA), (16, dA), (17, dA), (18, dA), (19, dA)]) (fun k => []) (fun k => l.length - k) (fun k => k ≤ l.length ∧ wrongI l a = idxG (fun c => !trueI c a) k (l.drop k)) 0 ?start ?frame0 ?objs0 ?round)
  case start => exact ⟨Nat.zero_le _, rfl⟩
  case frame0 => ((try dsimp only [upds, z0, z1]); repeat (first | exact LeF.nil | refine LeF.co (k := ?_)))
  case objs0 => rfl
  case round =>
    rintro k ⟨h1, h2⟩
    dsimp only [upds, z0, z1]
    by_cases hk : k < l.length
    · have hlt : (k : Int) < (l.length : Int) := by omega
      have ht := true43_p l[k] a
      rw [idxG_drop hk] at h2
      cases hc : trueI l[k] a with
      | true =>
        rw [hc] at ht
        rw [if_neg (by rw [hc]; decide)] at h2
        ((repeat' (first | (apply WL.opN; exact yF; dsimp only [setD, z0, z1]) | refine WL.nil ?_ | refine WC.seqK fun Kx hK => ?_ | (refine hK _ _ ?_; clear hK) | refine WC.region ?_ | (apply WL.opN; (focus ((first | (refine SY.ix (R := Ints) (_gR := inferInstance) (k := k) elSi (OpD.t rfl) (OpD.t rfl) hk) | (apply SY.call (ht) Try.call104; (exact aD)) | ((first | apply SY.move | apply SY.assign | apply SY.lss | apply SY.not) <;> (exact oD)) | ((first | apply SY.add) <;> first | exact oD | omega) | (apply SY.len; (exact oD); (exact nD); (exact uD)) | fail); all_goals infer_instance)); dsimp only [setD, z0, z1]) | (apply WC.condD; (exact oD); all_goals (intro h; try exact xD)) | (apply WC.condNB; (exact oD); all_goals (intro h; try exact xD)) | refine WC.skip ?_ | refine WC.block ?_ | refine ThenD.n ?_)); all_goals (first | ((repeat clear hK); (repeat clear Kx))))
        all_goals try (exfalso; first | contradiction | omega)
        (refine ⟨k + 1, ?_, by first | omega | (simp only; omega), rfl, ?_⟩; rotate_left; ((try dsimp only [upds, z0, z1]); repeat (first | exact LeF.nil | refine LeF.co (k := ?_))); (try dsimp only))
        exact ⟨by omega, h2⟩
      | false =>
        rw [hc] at ht
        rw [if_pos (by rw [hc]; decide)] at h2
        ((repeat' (first | (apply WL.opN; exact yF; dsimp only [setD, z0, z1]) | refine WL.nil ?_ | refine WC.seqK fun Kx hK => ?_ | (refine hK _ _ ?_; clear hK) | refine WC.region ?_ | (apply WL.opN; (focus ((first | (refine SY.ix (R := Ints) (_gR := inferInstance) (k := k) elSi (OpD.t rfl) (OpD.t rfl) hk) | (apply SY.call (ht) Try.call104; (exact aD)) | ((first | apply SY.move | apply SY.assign | apply SY.lss | apply SY.not) <;> (exact oD)) | (apply SY.len; (exact oD); (exact nD); (exact uD)) | fail); all_goals infer_instance)); dsimp only [setD, z0, z1]) | (apply WC.condD; (exact oD); all_goals (intro h; try exact xD)) | (apply WC.condNB; (exact oD); all_goals (intro h; try exact xD)) | refine WC.skip ?_ | refine WC.ret ?_ | refine WC.block ?_ | refine ThenD.r ?_ | refine InBlockD.r ?_)); all_goals (first | ((repeat clear hK); (repeat clear Kx))))
        all_goals try (exfalso; first | contradiction | omega)
        (refine ⟨trivial, _, rfl, ?_⟩; refine FinD.i ?_)
        exact h2.symm
    · have hlt : ¬ (k : Int) < (l.length : Int) := by omega
      ((repeat' (first | (apply WL.opN; exact yF; dsimp only [setD, z0, z1]) | refine WL.nil ?_ | refine WC.seqK fun Kx hK => ?_ | (refine hK _ _ ?_; clear hK) | (refine Kont.skip ?_; clear hK) | refine WC.region ?_ | (apply WL.opN; (focus ((first | ((first | apply SY.move | apply SY.assign | apply SY.lss | apply SY.not) <;> (exact oD)) | (apply SY.len; (exact oD); (exact nD); (exact uD)) | fail); all_goals infer_instance)); dsimp only [setD, z0, z1]) | (apply WC.condD; (exact oD); all_goals (intro h; try exact xD)) | refine WC.ret ?_ | refine WC.exit ?_)); all_goals (first | ((repeat clear hK); (repeat clear Kx))))
      all_goals try (exfalso; first | contradiction | omega)
      (refine ⟨trivial, _, rfl, ?_⟩; refine FinD.i ?_)
      rw [h2, List.drop_of_length_le (by omega)]; rfl
theorem with43_p (a : List Int) (x : Int) (ha : a.length ≤ 1000000) : Fn Try.prog 84 [dS Ints a, dI x] (dS Ints (a ++ [x])) := by
  (refine Fn.intro1 Try.func84 rfl rfl ?_; simp only [Try.ntmps84, List.length_cons, List.length_nil, Nat.reduceAdd, Nat.reduceSub, List.replicate_succ, List.replicate_zero, List.cons_append, List.nil_append])
  have h1 : (([] : List Int).length + a.length) * 8 ≤ 140737488355328 := by simp; omega
  have h2 : (([] ++ a : List Int).length + 1) * 8 ≤ 140737488355328 := by simp; omega
  ((repeat' (first | (apply WL.opN; exact yF; dsimp only [setD, z0, z1]) | refine WL.nil ?_ | refine WC.seqK fun Kx hK => ?_ | (refine hK _ _ ?_; clear hK) | refine WC.region ?_ |  (refine WL.litR (els := ([] : List Int)) elI ElsD.nl rfl rfl (fun _ => shape_I) (by simp) fun v => ?_; dsimp only [setD, z0, z1]) |  (refine WL.ofSW (SW.app1 elI (R := RI) (_gR := inferInstance) (OpD.t rfl) (OpD.t rfl) (by decide) h1) fun v2 => ?_; dsimp only [setD, z0, z1]) |  (refine WL.ofSW (SW.app1 elI (R := RI) (_gR := inferInstance) (OpD.t rfl) (OpD.t rfl) (by decide) h2) fun v3 => ?_; dsimp only [setD, z0, z1]) | ((first | apply WL.pushK | apply WL.push1); (exact eD); exact OpD.t rfl; (exact oD); (intro _; exact hD); (exact (by simp)); (exact (by simp)); (first | exact ⟨by decide, by decide⟩ | skip); decide; (exact lD); (intro _; dsimp only [setD, z0, z1]); all_goals (try infer_instance)) | refine WC.ret ?_)); all_goals (first | ((repeat clear hK); (repeat clear Kx))))
  all_goals ((refine ⟨trivial, _, rfl, ?_⟩; exact fD))
set_option maxHeartbeats 8000000 in
theorem all_c (V : Nat) (l : List (List Int)) (hV : V ≤ 10) : ∀ (n : Nat) (a : List Int), a.length + n = V → CallC Try.prog 58 ([dS Cls ((V : Int), l), dS Ints a] ++ ([] : List Value).map dX) [] (fun d hp2 => ∃ v, d = dX v ∧ hp2 = [hRow v 25 Ints (allF n l a)]) := by
  intro n
  induction n with
  | zero =>
    intro a ha
    refine CallC.nil1 ?_
    (refine CallC.intro Try.func58 rfl rfl (fun hp => ?_); simp only [Try.ntmps58, List.length_cons, List.length_nil, List.length_append, List.length_map, Nat.reduceAdd, Nat.reduceSub, List.replicate_succ, List.replicate_zero, List.cons_append, List.nil_append, List.map_cons, List.map_nil, List.append_assoc])
    have hal : (a.length : Int) = (V : Int) := by omega
    have hw := wrong43_p l a
    obtain ⟨k, hk⟩ : ∃ k, wrongI l a = k := ⟨_, rfl⟩
    have hn := wrongI_neg l a
    rw [hk] at hw hn
    by_cases h0 : k < 0
    · have e : allF 0 l a = [a] := by unfold allF; rw [if_pos (by rw [← hn]; exact decide_eq_true h0)]
      rw [e]
      ((repeat' (first | ((first | apply WL.opN | apply WD.opN); exact yF; dsimp only [setD, z0, z1]) | refine WL.nil ?_ | refine WC.seqK fun Kx hK => ?_ | (refine hK _ _ ?_; clear hK) | refine WC.region ?_ |  (refine WL.litR (R := Ints) (_gR := inferInstance) (els := [a]) elSi (ElsD.cn (OpD.t rfl) ElsD.nl) rfl rfl (fun _ => shape_A) (by simp) fun v => ?_; dsimp only [setD, z0, z1]) | ((first | apply WL.opN | apply WD.opN); (focus ((first | (apply SY.call (hw) Try.call83; (exact aD)) | ((first | apply SY.move | apply SY.assign | apply SY.lss | apply SY.eql) <;> (exact oD)) | (apply SY.len; (exact oD); (exact nD); (exact uD)) | (apply SY.fldP0 clT; exact OpD.t rfl) | (apply SY.fldP1 clT; exact OpD.t rfl) | (apply SY.box; (exact oD); (exact hD)) | fail); all_goals infer_instance)); dsimp only [setD, z0, z1]) | (apply WC.condD; (exact oD); all_goals (intro h; try exact xD)) | refine WC.ret ?_ | refine ThenD.r ?_)); all_goals (first | ((repeat clear hK); (repeat clear Kx))))
      all_goals try (exfalso; first | contradiction | omega)
      exact ⟨trivial, _, [hRow v 25 Ints [a]], rfl, rfl, v, rfl, .inl rfl⟩
    · have e : allF 0 l a = [] := by unfold allF; rw [if_neg (by rw [← hn]; simpa using h0)]
      rw [e]
      ((repeat' (first | ((first | apply WL.opN | apply WD.opN); exact yF; dsimp only [setD, z0, z1]) | refine WL.nil ?_ | refine WC.seqK fun Kx hK => ?_ | (refine hK _ _ ?_; clear hK) | refine WC.region ?_ | ((first | apply WL.opN | apply WD.opN); (focus ((first | (apply SY.call (hw) Try.call83; (exact aD)) | ((first | apply SY.move | apply SY.assign | apply SY.lss | apply SY.eql) <;> (exact oD)) | (apply SY.len; (exact oD); (exact nD); (exact uD)) | (apply SY.fldP0 clT; exact OpD.t rfl) | (apply SY.fldP1 clT; exact OpD.t rfl) | (apply SY.box; (exact oD); (exact hD)) | fail); all_goals infer_instance)); dsimp only [setD, z0, z1]) | (apply WC.condD; (exact oD); all_goals (intro h; try exact xD)) | refine WC.skip ?_ | refine WC.ret ?_ | refine ThenD.r ?_)); all_goals (first | ((repeat clear hK); (repeat clear Kx))))
      all_goals try (exfalso; first | contradiction | omega)
      exact ⟨trivial, _, [], rfl, rfl, _, rfl, .inr ⟨rfl, rfl, rfl⟩⟩
  | succ n ih =>
    intro a ha
    (refine CallC.intro Try.func58 rfl rfl (fun hp => ?_); simp only [Try.ntmps58, List.length_cons, List.length_nil, List.length_append, List.length_map, Nat.reduceAdd, Nat.reduceSub, List.replicate_succ, List.replicate_zero, List.cons_append, List.nil_append, List.map_cons, List.map_nil, List.append_assoc])
    have hal : ¬ (a.length : Int) = (V : Int) := by omega
    obtain ⟨v, hv⟩ : ∃ v : Int, v = (a.length : Int) + 1 := ⟨_, rfl⟩
    have hvb : 1 ≤ v ∧ v ≤ 10 := by omega
    have e : allF (n + 1) l a = allF n l (a ++ [v]) ++ allF n l (a ++ [-v]) := by rw [hv]; rfl
    rw [e]
    have hw1 := with43_p a v (by omega)
    have hw2 := with43_p a (-v) (by omega)
    have h1 := ih (a ++ [v]) (by rw [List.length_append, List.length_singleton]; omega)
    have h2 := (ih (a ++ [-v]) (by rw [List.length_append, List.length_singleton]; omega)).froz0
    have hp2 : 2 ^ n ≤ 2 ^ 10 := Nat.pow_le_pow_right (by decide) (by omega)
    have hp3 : (2 : Nat) ^ 10 = 1024 := by decide
    have hl1 := all_le (l := l) n (a ++ [v])
    have hl2 := all_le (l := l) n (a ++ [-v])
    generalize allF n l (a ++ [v]) = m1 at h1 hl1 ⊢
    generalize allF n l (a ++ [-v]) = m2 at h2 hl2 ⊢
    have h24 : (m1.length + m2.length) * 24 ≤ 140737488355328 := by omega
    clear hp2 hp3 hl1 hl2
    ((repeat' (first |  (refine WC.drawM (fun _ => True) 11 2 [(0, false), (1, false), (2, false), (3, false), (5, false), (6, false), (7, false), (8, false), (4, true), (9, false), (10, true)] [true, true, true, true, true, true, true, true, true, true, true, false, false] (by kernel_rfl) (by kernel_rfl) (by kernel_rfl) rfl (trivial) ?_) |  (first | refine WA.one (S := [true, true, true, true, true, true, true, true, true, true, true, false, false]) (i := 11) (by kernel_rfl) rfl ?_ | refine WA.one (S := [true, true, true, true, true, true, true, true, true, true, true, true, false]) (i := 12) (by kernel_rfl) rfl ?_ | refine WA.nil (S := [true, true, true, true, true, true, true, true, true, true, true, true, true]) (by kernel_rfl) ?_) |  (refine WM.writeL rfl (SW.callC (hp1 := []) (caps := []) (H := fun u : Value => [hRow u 25 Ints m1]) (D := fun u => dX u) h1 Try.call58 OpD.f (ArgsD.cons (OpD.t rfl) (ArgsD.cons (OpD.t rfl) ArgsD.nil)) fun _ _ h => h) (fun _ => trivial) fun u1 => ?_; dsimp only [setD, z0, z1, List.cons_append, List.nil_append]) |  (refine WM.writeL rfl (SW.callC (hp1 := []) (caps := []) (H := fun _ : Unit => []) (D := fun _ => dS Rows m2) h2 Try.call58 OpD.f (ArgsD.cons (OpD.t rfl) (ArgsD.cons (OpD.t rfl) ArgsD.nil)) fun _ _ h => ⟨(), h.1, h.2⟩) (fun _ => trivial) fun _ => ?_; dsimp only [setD, z0, z1, List.cons_append, List.nil_append]) | (refine WM.nil ?_) | (apply WM.readL rfl; (focus (intro c hcc; apply SYG.yes; (exact want_none rfl); ((first | (exact SY.neg (OpD.t rfl) (by omega)) | (apply SY.call (hw1) Try.call84; exact ArgsD.cons (OpD.t rfl) (ArgsD.cons (OpD.t rfl) (ArgsD.nil))) | (apply SY.call (hw2) Try.call84; exact ArgsD.cons (OpD.t rfl) (ArgsD.cons (OpD.t rfl) (ArgsD.nil))) | ((first | apply SY.move | apply SY.assign | apply SY.lss | apply SY.eql) <;> (exact oD)) | (apply SY.load; (exact tD); (exact oD)) | fail); all_goals infer_instance))); dsimp only [setD, z0, z1]) | ((first | apply WL.opN | apply WD.opN); exact yF; dsimp only [setD, z0, z1]) | refine WL.nil ?_ | refine WC.seqK fun Kx hK => ?_ | (refine hK _ _ ?_; clear hK) | refine WC.region ?_ |  (refine WL.ofSW (SW.app1 elSi (R := Ints) (_gR := inferInstance) (OpD.t rfl) (OpD.t rfl) (by decide) h24) fun v3 => ?_; dsimp only [setD, z0, z1]) | ((first | apply WL.opN | apply WD.opN); (focus ((first | (refine SY.mono (SY.add (OpD.t rfl) OpD.i (by omega)) (le_ii hv.symm)) | ((first | apply SY.move | apply SY.assign | apply SY.lss | apply SY.eql) <;> (exact oD)) | (apply SY.len; (exact oD); (exact nD); (exact uD)) | (apply SY.fldP0 clT; exact OpD.t rfl) | (apply SY.fldP1 clT; exact OpD.t rfl) | (apply SY.box; (exact oD); (exact hD)) | fail); all_goals infer_instance)); dsimp only [setD, z0, z1]) | (apply WC.condD; (exact oD); all_goals (intro h; try exact xD)) | refine WC.skip ?_ | refine WC.ret ?_)); all_goals (first | ((repeat clear hK); (repeat clear Kx))))
    all_goals try (exfalso; first | contradiction | omega)
    exact ⟨trivial, _, [hRow _ 25 Ints (m1 ++ m2)], rfl, rfl, _, rfl, rfl⟩
end Go.Proofs.Ytpiidgcljlalmaa
