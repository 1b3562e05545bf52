/- Part 1: walks by contracts, and plain laws. -/
import Derived.Test.YtpiidgcljlalmaaVd7
set_option linter.unusedVariables false
set_option linter.unusedSimpArgs false
set_option linter.unusedSectionVars false
namespace Go.Proofs.Ytpiidgcljlalmaa
open Go.RowKit

section
variable {P : Program} {ops : Array Oper} {hp : List HObj} {o : Oper} {fr : List Dat} {d : Dat} {Q : Post} {rest : List Oper}
variable {dst : Option Tmp} {ty : TypeId} {ps : String} {af : Array Edge} {g : Option (Nat × Bool)}

theorem bare_B {n : Bool} : (dB n).Bare := fun _ _ _ _ _ h => h

end

end Go.Proofs.Ytpiidgcljlalmaa
namespace Go.Proofs.Ytpiidgcljlalmaa
open Go.RowKit
section
variable {P : Program} {ops : Array Oper} {hp : List HObj} {fr : List Dat} {d : Dat} {Q : Post} {rest : List Oper}
variable {dst : Option Tmp} {ty : TypeId} {ps : String} {af : Array Edge} {g : Option (Nat × Bool)} {T T1 T2 : TypeId} {b off k n : Nat} {ds ds' : List Dat}
theorem WC.freezeS {c : Code} {t : Nat} (hp0 : fr[t]? = some (dX (.pointer (some ⟨b, 0, none⟩)))) (hn : 0 < n) (hl : ds.length = n) (h : WC P Q c (fr.set t (dP n true (dAgg ds))) hp) : WC P Q c fr (hStr b T ds :: hp) := by
  refine WC.of fun P0 B w0 w a hh hf => ?_
  obtain ⟨cs, c1, c2, c3, c4⟩ := hh.ok (hStr b T ds) (by simp)
  have hown := hh.own (hStr b T ds) (by simp) b rfl
  refine h.on hh.drop ⟨hf.defers, by rw [hf.size, List.length_set], fun t' d' hd' => ?_⟩
  by_cases htt : t = t'
  · subst htt
    rw [List.getElem?_set] at hd'
    simp only [if_true] at hd'
    split at hd'
    · cases hd'
      have hv : a.tmps.getD t undef = .pointer (some ⟨b, 0, none⟩) := hf.rd t _ hp0
      rw [hv]
      refine ⟨b, 0, .agg cs.toArray, rfl, ⟨⟨.inr hown.1, fun o' ho' hk => (List.pairwise_cons.1 hh.apart).1 o' ho' b rfl hk⟩, cs, by omega, hn, c3, fun j c hc => ?_, rfl⟩, cs, rfl, c2, c3, fun k c d hc hd => d.weak (c4 k c d hc hd) Imm.sub⟩
      simp [World.cell?, c1, hc]
    · cases hd'
  · rw [List.getElem?_set_ne htt] at hd'
    exact d'.weak (hf.rd t' d' hd') Imm.sub
end
end Go.Proofs.Ytpiidgcljlalmaa
namespace Go.Proofs.Ytpiidgcljlalmaa
open Go.RowKit
section
variable {P : Program} {ops : Array Oper} {md : Region.Mode} {fr fr' : List Dat} {hp : List HObj} {C : List HObj → Prop}
def rdB (md : Region.Mode) (ops : Array Oper) (n : Nat) : List Nat → Array Bool → Bool
  | [], _ => true
  | i :: r, listed => decide (i < n) && (Region.ready md ops listed).contains i && Region.free md ops listed i && rdB md ops n r (listed.setIfInBounds i true)
theorem wpAnyM_rd {n f0 : Nat} {L : Array Bool → List Dat → List HObj → Prop} {Q : List Dat → Prop} (hs : Region.sinkB md ops n = true) (hc : chainB2 md ops n = true) (hn : n < ops.size) (hdone : ∀ listed a c, L listed a c → ∀ j ∈ Region.ready md ops listed, n ≤ j) :
    ∀ (l : List Nat) (listed : Array Bool) (fr : List Dat), HeadInv md ops n listed → rdB md ops n l listed = true → WRd P ops C Q l fr → (∀ fr', Q fr' → HeadInv md ops n (l.foldl (fun s i => s.setIfInBounds i true) listed) → wpAnyM P md ops C n L f0 (l.foldl (fun s i => s.setIfInBounds i true) listed) fr' hp) →
    wpAnyM P md ops C n L (f0 + l.length) listed fr hp
  | [], listed, fr, inv, _, h, hk => by
    cases h
    rename_i h
    exact hk _ h inv
  | i :: r, listed, fr, inv, hB, h, hk => by
    cases h
    rename_i o d ho hy hr
    simp only [rdB, Bool.and_eq_true, decide_eq_true_eq] at hB
    obtain ⟨⟨⟨hin, hrd⟩, hf⟩, hB'⟩ := hB
    have hr' : i ∈ Region.ready md ops listed := by simpa using hrd
    have := wpAnyM_first ho hs hc hn hin hdone (f0 + r.length) listed fr hp inv (Region.free_spec ho hf) hr' hy (wpAnyM_rd hs hc hn hdone r _ _ (inv.set hr' hin) hB' hr hk)
    rw [List.length_cons, ← Nat.add_assoc]
    exact this
end
end Go.Proofs.Ytpiidgcljlalmaa
namespace Go.Proofs.Ytpiidgcljlalmaa
open Go.RowKit
theorem all_nodup {l : List (List Int)} : ∀ (n : Nat) (a : List Int), PosL a → (allF n l a).Nodup
  | 0, a, _ => by
    unfold allF
    split <;> simp
  | n + 1, a, hp => by
    unfold allF
    rw [List.nodup_append]
    refine ⟨all_nodup n _ (hp.snoc (.inl rfl)), all_nodup n _ (hp.snoc (.inr rfl)), fun x hx y hy q => ?_⟩
    subst q
    obtain ⟨⟨t, h1⟩, _⟩ := (all_mem n _ (hp.snoc (.inl rfl))).1 hx
    obtain ⟨⟨u, h2⟩, _⟩ := (all_mem n _ (hp.snoc (.inr rfl))).1 hy
    rw [h2, List.append_assoc, List.append_assoc] at h1
    have h3 := List.append_cancel_left h1
    have h4 : -((a.length : Int) + 1) = (a.length : Int) + 1 := (List.cons.inj h3).1
    omega
theorem all_filter {l : List (List Int)} : ∀ (n : Nat) (a : List Int), allF n l a = (allF n [] a).filter fun m => l.all fun c => trueI c m
  | 0, a => by
    have e0 : allF 0 [] a = [a] := rfl
    rw [e0]
    unfold allF
    by_cases h : l.all (fun c => trueI c a) = true
    · rw [if_pos h]
      exact (List.filter_cons_of_pos (p := fun m => l.all fun c => trueI c m) (l := []) h).symm
    · rw [if_neg h]
      exact (List.filter_cons_of_neg (p := fun m => l.all fun c => trueI c m) (l := []) h).symm
  | n + 1, a => by
    unfold allF
    rw [all_filter (l := l) n (a ++ [(a.length : Int) + 1]), all_filter (l := l) n (a ++ [-((a.length : Int) + 1)]), List.filter_append]
end Go.Proofs.Ytpiidgcljlalmaa
namespace Go.Proofs.Ytpiidgcljlalmaa
open Go.RowKit
def negM (m : List Int) : List Int := m.map fun x => -x
theorem negM_true {V : Nat} {m m' : List Int} (h1 : m.length = V) (h2 : PosL m) (h3 : m'.length = V) (h4 : PosL m') : trueI (negM m) m' = true ↔ m' ≠ m := by
  rw [trueI_iff]
  constructor
  · rintro ⟨y, y1, y2⟩ rfl
    obtain ⟨x, hx, rfl⟩ := List.mem_map.1 y1
    exact (pos_modl h3 h4).cons x hx y2
  · intro hne
    refine Classical.byContradiction fun q => hne ?_
    apply List.ext_getElem (by omega)
    intro i i1 i2
    have g1 := h4 i _ (List.getElem?_eq_getElem i1)
    have g2 := h2 i _ (List.getElem?_eq_getElem i2)
    have : m'[i] ≠ -m[i] := fun e => q ⟨-m[i], List.mem_map.2 ⟨m[i], List.getElem_mem i2, rfl⟩, by rw [← e]; exact List.getElem_mem i1⟩
    omega
theorem negM_wf {V : Nat} {m : List Int} (h1 : m.length = V) (h2 : PosL m) : WfC V (negM m) where
  rng := fun x hx => by
    obtain ⟨y, hy, rfl⟩ := List.mem_map.1 hx
    obtain ⟨i, hi⟩ := List.mem_iff_getElem?.1 hy
    have := (List.getElem?_eq_some_iff.1 hi).1
    have := h2 i y hi
    omega
  inc := by
    refine List.pairwise_map.2 (List.pairwise_iff_getElem.2 fun i j hi hj hij => ?_)
    have g1 := h2 i _ (List.getElem?_eq_getElem hi)
    have g2 := h2 j _ (List.getElem?_eq_getElem hj)
    omega
theorem block_all {V : Nat} {l : List (List Int)} {m : List Int} (h1 : m.length = V) (h2 : PosL m) : allF V (l ++ [negM m]) [] = (allF V l []).filter fun x => decide (x ≠ m) := by
  rw [all_filter V (l := l ++ [negM m]), all_filter V (l := l), List.filter_filter]
  refine List.filter_congr fun x hx => ?_
  obtain ⟨x1, x2, _⟩ := model_mem.1 hx
  rw [List.all_append, Bool.and_comm]
  congr 1
  rw [Bool.eq_iff_iff, decide_eq_true_eq, ← negM_true h1 h2 x1 x2]
  simp
theorem filt_ne {α : Type} [DecidableEq α] {m : α} : ∀ {k : List α}, k.Nodup → m ∈ k → (k.filter fun x => decide (x ≠ m)).length + 1 = k.length
  | x :: k, hn, hm => by
    obtain ⟨h1, h2⟩ := List.nodup_cons.1 hn
    by_cases e : x = m
    · subst e
      have e2 : (k.filter fun y => decide (y ≠ x)) = k := List.filter_eq_self.2 fun y hy => decide_eq_true fun q => h1 (q ▸ hy)
      rw [List.filter_cons_of_neg (by simp), e2, List.length_cons]
    · have hm' : m ∈ k := by
        rcases List.mem_cons.1 hm with q | q
        · exact absurd q.symm e
        · exact q
      rw [List.filter_cons_of_pos (by simpa using e), List.length_cons, List.length_cons, filt_ne h2 hm']
theorem block_len {V : Nat} {l : List (List Int)} {m : List Int} (hm : m ∈ allF V l []) : (allF V (l ++ [negM m]) []).length + 1 = (allF V l []).length := by
  obtain ⟨h1, h2, _⟩ := model_mem.1 hm
  rw [block_all h1 h2]
  exact filt_ne (all_nodup V [] pos_nil) hm
end Go.Proofs.Ytpiidgcljlalmaa
namespace Go.Proofs.Ytpiidgcljlalmaa
open Go.RowKit
theorem refut_verify {V : Nat} (hV : V ≤ 4096) {l p : List (List Int)} (h : Refut V l p) (hck : checkI (V : Int) l = 0) (hp : p.length ≤ 32768) : verifyI (V : Int) l p = (0, 0) := by
  rw [verifyI_zero hck hp (badI_none.2 fun c hc => (clauseI_iff hV).2 (h.wp c hc)), if_neg]
  have := gapI_neg.2 ⟨h.ok, h.last⟩
  omega
set_option linter.unusedSimpArgs false
set_option linter.unusedVariables false
set_option maxHeartbeats 2000000
set_option maxRecDepth 100000
end Go.Proofs.Ytpiidgcljlalmaa
namespace Go.Proofs.Ytpiidgcljlalmaa
open Go.RowKit
theorem few43_len {V : Int} {l : List (List Int)} (h : fewB V l = true) (hc : checkI V l = 0) : l.length ≤ 40 := by
  have hs : sizesI V l.length = 0 := by
    unfold checkI at hc
    by_cases h1 : sizesI V l.length = 0
    · exact h1
    · rw [if_pos h1] at hc; exact absurd hc h1
  unfold fewB at h
  rw [if_neg (by simp [hs])] at h
  split at h
  · exact (of_decide_eq_true h).1
  · cases h
theorem check_of {V : Nat} (hV : V ≤ 4096) {r : List (List Int)} (hw : WfL V r) (hl : r.length ≤ 32768) : checkI (V : Int) r = 0 := by
  have hs0 : sizesI (V : Int) r.length = 0 := by unfold sizesI; rw [if_neg (by omega), if_neg (by omega)]
  unfold checkI
  rw [hs0, if_neg (by simp)]
  exact (clausesI_iff hV).2 hw
theorem dP_mono {n : Nat} {ag : Bool} {d d' : Dat} (h : d.le d') : (dP n ag d).le (dP n ag d') := fun _ _ _ ⟨b, off, u, q1, q2, q3⟩ => ⟨b, off, u, q1, q2, h _ _ _ q3⟩
section
variable {P : Program} {ops : Array Oper} {hp : List HObj} {fr : List Dat} {Q : Post} {rest : List Oper} {b : Nat} {T : TypeId}
theorem WC.freezeQ {c : Code} {t : Nat} {V : Int} {l : List (List Int)} (hp0 : fr[t]? = some (dX (.pointer (some ⟨b, 0, none⟩)))) (h : WC P Q c (fr.set t (dP 2 true (dS Cls (V, l)))) hp) : WC P Q c fr (hStr b T [dI V, dS Rows l] :: hp) := by
  refine WC.freezeS hp0 (n := 2) (by decide) rfl (h.weak (by simp) fun t' d hd => ?_)
  obtain ⟨ht, _⟩ := List.getElem?_eq_some_iff.1 hp0
  rw [List.getElem?_set] at hd ⊢
  by_cases htt : t = t'
  · subst htt
    rw [if_pos rfl, if_pos ht] at hd ⊢
    cases hd
    exact ⟨_, rfl, dP_mono (agg_le (Dat.le_refl _) (Dat.le_refl _))⟩
  · rw [if_neg htt] at hd ⊢
    exact ⟨d, hd, Dat.le_refl _⟩
theorem WC.joinX {α : Type} {y : Code} {l : Array Oper} {m : Bool} (id : Nat) (ups : α → List (Nat × Dat)) (H : α → List HObj) (h1 : Halt (WC P (fun e f q => e = .normal ∧ ∃ x, q.Perm (H x) ∧ LeF f (upds fr (ups x))) (.region id l m) fr hp)) (h2 : ∀ x, Halt (WC P Q y (upds fr (ups x)) (H x))) : WC P Q (.seq (.region id l m) y) fr hp :=
  WC.seq (h1.go.mono fun e f q ⟨he, x, hq, hl⟩ => by
    subst he
    exact WC.perm hq (WC.weakF hl (h2 x).go))
end
set_option linter.unusedSimpArgs false
set_option linter.unusedVariables false
set_option maxHeartbeats 2000000
set_option maxRecDepth 100000
theorem eqNilS : ∀ (x y : Operand) ad m c w, (do eqGuard .eql 22 x y (.slice ad m c) (.slice none 0 0); Go.binOp .eql 22 (.slice ad m c) (.slice none 0 0)).run Try.prog w = .ok (.bool ad.isNone) w := by
  intro x y ad m c w
  cases ad <;> (go_simp; try (unfold Go.binOp; simp only; unfold Op.equal Op.maxDepth Op.equalIn; simp [run_underlying Try.underlying22]))
theorem cloneR_c (xs : List (List Int)) (hl : xs.length ≤ 1000000) : CallC Try.prog 28 ([dS Rows xs] ++ ([] : List Value).map dX) [] fun d' hp2 => ∃ v, d' = dX v ∧ hp2 = [hRow v 25 Ints xs] := by
  refine CallC.nil1 ?_
  (refine CallC.intro Try.func28 rfl rfl (fun hp => ?_); simp only [Try.ntmps28, List.length_cons, List.length_nil, List.length_append, List.length_map, Nat.reduceAdd, Nat.reduceSub, List.replicate_succ, List.replicate_zero, List.cons_append, List.nil_append, List.map_cons, List.map_nil, List.append_assoc])
  ((repeat' (first |  (refine WL.openE 4 rfl fun b hb => ?_; dsimp only [z0, z1]) | (apply WL.opN; exact yF; dsimp only [setD, z0, z1]) | refine WL.nil ?_ | refine WC.seqK fun Kx hK => ?_ | (refine hK _ _ ?_; clear hK) | refine WC.region ?_ |  (apply WL.build01 elSi Ints; (intro _; dsimp only [setD, z0, z1]); all_goals (try infer_instance)) | ((first | apply WL.appK | apply WL.app1); (exact eD); exact OpD.t rfl; (exact oD); decide; (exact lD); (intro _; dsimp only [setD, z0, z1]); all_goals (try infer_instance)) | (apply WL.opN; (focus ((first | (apply SY.eqNil; exact OpD.t rfl; (exact fun _ _ _ h => nil_A h); exact len_A; exact eqNilS) | fail); all_goals infer_instance)); dsimp only [setD, z0, z1]) | (apply WC.cond; (exact oD); all_goals (intro h; try exact xD)) | refine WC.skip ?_ | refine WC.ret ?_ | refine ThenD.r ?_)); all_goals (first | ((repeat clear hK); (repeat clear Kx))))
  · exact ⟨trivial, _, [], rfl, rfl, _, rfl, .inr ⟨rfl, hb h, rfl⟩⟩
  · exact ⟨trivial, _, [_], rfl, rfl, _, rfl, .inl (by rw [List.nil_append])⟩
theorem negated_p (V : Nat) (hV : V ≤ 10) (c : List Int) (hc : ∀ x ∈ c, x ≠ 0 ∧ x.natAbs ≤ V) (hcn : c.length ≤ 1000) : Fn Try.prog 31 [dS Ints c] (dS Ints (ngI c)) := by
  (refine Fn.intro1 Try.func31 rfl rfl ?_; simp only [Try.ntmps31, List.length_cons, List.length_nil, Nat.reduceAdd, Nat.reduceSub, List.replicate_succ, List.replicate_zero, List.cons_append, List.nil_append])
  refine WC.nilRow 3 RI ?_
  (repeat' (first | (apply WL.opN; exact yF; dsimp only [setD, z0, z1]) | refine WL.nil ?_ | refine WC.seqK fun Kx hK => ?_ | (refine hK _ _ ?_; clear hK) | refine WC.region ?_ | (apply WL.opN; (focus ((first | (apply SY.len; (exact oD); (exact nD); (exact uD)) | fail); all_goals infer_instance)); dsimp only [setD, z0, z1]) | refine WC.block ?_))
  all_goals try (exfalso; first | contradiction | omega)
  (refine WC.loopU (X := Nat × Value) (fun x => [(8, dI (x.1 : Int)), (3, dX x.2), (5, dA), (9, dA), (10, dA), (11, dA), (12, dA), (13, dA), (14, dA), (15, dA), (16, dA), (17, dA)]) (fun x => ([hRow x.2 3 RI (ngI (c.take x.1))])) (fun x => c.length - x.1) (fun x => x.1 ≤ c.length) (0, nilV) ?start ?frame0 ?objs0 ?round)
  case start => exact Nat.zero_le _
  case frame0 => ((try dsimp only [upds, z0, z1]); repeat (first | exact LeF.nil | refine LeF.co (k := ?_)))
  case objs0 => rfl
  case round =>
    rintro ⟨i, vo⟩ hi
    simp only at hi
    dsimp only [upds, z0, z1]
    by_cases hil : i < c.length
    · have hlti : (i : Int) < (c.length : Int) := by omega
      obtain ⟨x, hx⟩ : ∃ x, c[i] = x := ⟨_, rfl⟩
      have hxr := hc x (by rw [← hx]; exact List.getElem_mem hil)
      have et := ngI_take (c := c) hil
      rw [hx] at et
      have hcln : (ngI (c.take i)).length = i := by simp [ngI]; omega
      have h24 : ((ngI (c.take i)).length + 1) * 8 ≤ 140737488355328 := by omega
      ((repeat' (first | (apply WL.opN; exact yF; dsimp only [setD, z0, z1]) | refine WL.nil ?_ | refine WC.seqK fun Kx hK => ?_ | (refine hK _ _ ?_; clear hK) | refine WC.region ?_ | ((first | apply WL.pushK | apply WL.push1); (exact eD); exact OpD.t rfl; (exact oD); (intro _; exact hD); (exact (by simp)); (exact (by simp)); (first | exact ⟨by decide, by decide⟩ | skip); decide; (exact lD); (intro _; dsimp only [setD, z0, z1]); all_goals (try infer_instance)) | (apply WL.opN; (focus ((first | (refine SY.ixE1 (R := RI) (_gR := inferInstance) elI hil hx (OpD.t rfl) (OpD.t rfl)) | (exact SY.neg (OpD.t rfl) (by omega)) | ((first | apply SY.move | apply SY.assign | apply SY.lss) <;> (exact oD)) | ((first | apply SY.add) <;> first | exact oD | omega) | fail); all_goals infer_instance)); dsimp only [setD, z0, z1]) | (apply WC.condD; (exact oD); all_goals (intro h; try exact xD)) | refine WC.skip ?_ | refine WC.block ?_ | refine ThenD.n ?_)); all_goals (first | ((repeat clear hK); (repeat clear Kx))))
      all_goals try (exfalso; first | contradiction | omega)
      rw [← et]
      (refine ⟨(i + 1, _), ?_, by first | omega | (simp only; omega), rfl, ?_⟩; rotate_left; ((try dsimp only [upds, z0, z1]); repeat (first | exact LeF.nil | refine LeF.co (k := ?_))); (try dsimp only))
      omega
    · have hlti : ¬ (i : Int) < (c.length : Int) := by omega
      obtain rfl : i = c.length := by omega
      rw [List.take_length]
      (repeat' (first |  (refine WC.only 7 (Halt.go ?_)) | refine WL.nil ?_ | refine WC.seqK fun Kx hK => ?_ | (refine hK _ _ ?_; clear hK) | (refine Kont.skip ?_; clear hK) | refine WC.region ?_ | (apply WL.opN; (focus ((first | ((first | apply SY.move | apply SY.assign | apply SY.lss) <;> (exact oD)) | fail); all_goals infer_instance)); dsimp only [setD, z0, z1]) | (apply WC.condD; (exact oD); all_goals (intro h; try exact xD)) | refine WC.exit ?_))
      all_goals try (exfalso; first | contradiction | omega)
      refine ⟨WC.keep1 (s := 3) rfl ?_⟩
      dsimp only [z0, z1]
      ((repeat' (first | (apply WL.opN; exact yF; dsimp only [setD, z0, z1]) | refine WL.nil ?_ | (refine hK _ _ ?_; clear hK) | refine WC.region ?_ | refine WC.ret ?_)); all_goals (first | ((repeat clear hK); (repeat clear Kx))))
      all_goals try (exfalso; first | contradiction | omega)
      (refine ⟨trivial, _, rfl, ?_⟩; exact fD)
end Go.Proofs.Ytpiidgcljlalmaa
namespace Go.Proofs.Ytpiidgcljlalmaa
open Go.RowKit
section
variable {P : Program} {ops : Array Oper} {md : Region.Mode} {fr fr' : List Dat} {hp : List HObj} {C : List HObj → Prop}
theorem SW.ofSY {o : Oper} {d : Dat} (hg : o.guard = none) (h : SY P ops hp o fr d) : SW P ops hp (fun _ : Unit => hp) (fun _ => d) o fr :=
  ⟨hg, fun {_ _ _ _ _} hh ho K Q hk => h.out hh ho K Q fun v w' e hd => hk () v w' (hh.ext e) (fun d _ hu => d.ext hu e) hd⟩
structure WT (P : Program) (l : List Oper) (C : List HObj → Prop) (n : Nat) (Sf : List Bool) (R : List Dat → List HObj → Prop) (f : Nat) (S : List Bool) (fr : List Dat) (hp : List HObj) : Prop where
  out : wpAnyM P .any l.toArray C n (fun listed' f p => (∀ k ∈ Region.ready .any l.toArray listed', n ≤ k) ∧ listed' = Sf.toArray ∧ R f p) f S.toArray fr hp
variable {l : List Oper} {n f : Nat} {S Sf : List Bool} {R : List Dat → List HObj → Prop}
theorem WT.done (hB : ((Region.ready .any l.toArray S.toArray).all (fun k => decide (n ≤ k)) && decide (S = Sf)) = true) (h : R fr hp) : WT P l C n Sf R 0 S fr hp := by
  simp only [Bool.and_eq_true, List.all_eq_true, decide_eq_true_eq] at hB
  obtain ⟨h1, rfl⟩ := hB
  exact ⟨h1, rfl, h⟩
theorem WT.one {i : Nat} {o : Oper} {β : Type} {H : β → List HObj} {D : β → Dat} (hB : (decide (Region.ready .any l.toArray S.toArray = [i]) && decide (i < n)) = true) (ho : l[i]? = some o) (h : SW P l.toArray hp H D o fr) (hC : ∀ x, C (H x)) (k : ∀ x, WT P l C n Sf R f (S.set i true) (setD fr o.dst (D x)) (H x)) : WT P l C n Sf R (f + 1) S fr hp := by
  simp only [Bool.and_eq_true, decide_eq_true_eq] at hB
  obtain ⟨h1, h2⟩ := hB
  refine ⟨fun h0 => (by rw [h1] at h0; cases h0), fun j hj => ?_⟩
  rw [h1] at hj
  cases List.mem_singleton.1 hj
  exact ⟨h2, o, by simpa using ho, .inr ⟨β, H, D, h, hC, fun x => by have := (k x).out; rwa [← List.setIfInBounds_toArray] at this⟩⟩
theorem WT.two {i j : Nat} {o o2 : Oper} {β γ : Type} {H : β → List HObj} {D : β → Dat} {H2 : γ → List HObj} {D2 : γ → Dat} (hB : (decide (Region.ready .any l.toArray S.toArray = [i, j]) && decide (i < n) && decide (j < n)) = true)
    (ho : l[i]? = some o) (h : SW P l.toArray hp H D o fr) (hC : ∀ x, C (H x)) (ho2 : l[j]? = some o2) (h2 : SW P l.toArray hp H2 D2 o2 fr) (hC2 : ∀ x, C (H2 x))
    (k : ∀ x, WT P l C n Sf R f (S.set i true) (setD fr o.dst (D x)) (H x)) (k2 : ∀ x, WT P l C n Sf R f (S.set j true) (setD fr o2.dst (D2 x)) (H2 x)) : WT P l C n Sf R (f + 1) S fr hp := by
  simp only [Bool.and_eq_true, decide_eq_true_eq] at hB
  obtain ⟨⟨h1, hi⟩, hj⟩ := hB
  refine ⟨fun h0 => (by rw [h1] at h0; cases h0), fun m hm => ?_⟩
  rw [h1] at hm
  rcases List.mem_cons.1 hm with rfl | hm
  · exact ⟨hi, o, by simpa using ho, .inr ⟨β, H, D, h, hC, fun x => by have := (k x).out; rwa [← List.setIfInBounds_toArray] at this⟩⟩
  · cases List.mem_singleton.1 hm
    exact ⟨hj, o2, by simpa using ho2, .inr ⟨γ, H2, D2, h2, hC2, fun x => by have := (k2 x).out; rwa [← List.setIfInBounds_toArray] at this⟩⟩
set_option maxRecDepth 100000 in
theorem SW.mkO {x y : Operand} {n : Int} {v : Value} {e : TypeId} {α : Type} {R : Rel α} {_gR : Good R} {xs : List α} {dst : Option Tmp} {ty : TypeId} {ps : String} {af : Array Edge} (hm : hRow v e R xs ∈ hp) (hx : OpD fr x (dI n)) (hy : OpD fr y (dX v)) : SW Try.prog ops hp (fun _ : Unit => hp) (fun _ => dAgg [dI n, dX v]) { dst := dst, op := .build 24 #[(0, x), (1, y)], type := ty, pos := ps, after := af, guard := none } fr :=
  ⟨rfl, fun {_ _ _ _ _} hh ho K Q hk => (SW.ofSY rfl (SY.mkA (by
    intro I w u hu
    cases (hu : _ = _)
    rcases own_form (hh.ok _ hm) with ⟨q, _⟩ | ⟨b, cap, q, _⟩ <;> exact ⟨_, _, _, q⟩) hx hy)).out hh ho K Q hk⟩
theorem WC.drawT {id : Nat} {l : List Oper} {Q : Post} (C : List HObj → Prop) (n m f0 : Nat) (rds : List Nat) (S Sf : List Bool) (hm : P.follows .mixedOrders = true)
    (hB : (decide (n < l.toArray.size) && Region.sinkB .any l.toArray n && chainB2 .any l.toArray n && rdB .any l.toArray n rds (Array.replicate l.toArray.size false)) = true) (hS : rds.foldl (fun s i => s.setIfInBounds i true) (Array.replicate l.toArray.size false) = S.toArray) (hlen : l.length = rds.length + f0 + m) (hC : C hp)
    (h : WRd P l.toArray C (fun f => WT P l C n Sf (fun f p => WA P l.toArray Q m Sf f p) f0 S f hp) rds fr) : WC P Q (.region id l.toArray true) fr hp := by
  refine WC.of fun P0 B w0 w a hh hf => ?_
  simp only [Bool.and_eq_true, decide_eq_true_eq] at hB
  obtain ⟨⟨⟨hn, hs⟩, hc⟩, hord⟩ := hB
  have inv0 : HeadInv .any l.toArray n (Array.replicate l.toArray.size false) :=
    ⟨by simp, fun j oj _ hl => (by rw [getD_replicate_false] at hl; cases hl), fun t _ ht => getD_in (by simpa using ht) (getD_replicate_false _ _)⟩
  have HW := wpAnyM_rd (f0 := f0) (hp := hp) (L := fun listed' f p => (∀ k ∈ Region.ready .any l.toArray listed', n ≤ k) ∧ listed' = Sf.toArray ∧ WA P l.toArray Q m Sf f p) hs hc hn (fun _ _ _ hL => hL.1) rds _ fr inv0 hord h fun fr' hq _ => by
    rw [hS]; exact hq.out
  have hx : Ext w { w with drawn := w.drawn + 1 } := (Ext.refl w).drew
  refine wp_region_any hm ?_
  have := wpAny_of_headM (Q' := lift Q P0 B w0) (g := m) _ _ _ hp _ _ hC (hh.ext hx) (hf.ext hx) (fun listed' fr' hp' a' w' hh' hf' hL => by
    rw [hL.2.1]
    exact hL.2.2.out _ _ _ _ _ hh' hf') HW
  rw [show l.toArray.size = f0 + rds.length + m by simp; omega]
  rw [show (l.toArray.size) = f0 + rds.length + m by simp; omega] at this
  exact this
end
end Go.Proofs.Ytpiidgcljlalmaa
namespace Go.Proofs.Ytpiidgcljlalmaa
open Go.RowKit
open S43 (SS up RS GInv beginS startS addS backS)
section
variable {P : Program} {f : FuncId} {fn : Func} {c : Code} {ds : List Dat} {hp1 : List HObj}
def fin4O (t u v x : Nat) (K : Dat → Dat → Dat → Dat → List HObj → Prop) (hp : List HObj) : Post := fun e f q => (match e with | .normal | .ret => True | _ => False) ∧ ∃ d2 d3 d4 d5 e2 e3 e4 e5 : Dat, f[t]? = some d2 ∧ f[u]? = some d3 ∧ f[v]? = some d4 ∧ f[x]? = some d5 ∧ d2.le e2 ∧ d3.le e3 ∧ d4.le e4 ∧ d5.le e5 ∧ ∃ kept, (∃ junk, q = junk ++ (kept ++ hp)) ∧ K e2 e3 e4 e5 kept
theorem CallC.intro4O {t u v x : Nat} {K : Dat → Dat → Dat → Dat → List HObj → Prop} (hf : P.funcs[f]? = some fn) (hb : fn.body = some c) (hr : fn.results = #[.tmp t, .tmp u, .tmp v, .tmp x])
    (h : ∀ hp, WC P (fin4O t u v x K hp) c (ds ++ List.replicate (fn.ntmps - ds.length) (dX undef)) (hp1 ++ hp)) : CallC P f ds hp1 (fun d hp2 => ∃ e2 e3 e4 e5, d = dT [e2, e3, e4, e5] ∧ K e2 e3 e4 e5 hp2) := ⟨fun P0 B w0 hp vs W hh hl hv => by
  refine calls_of_wp hf hb ?_
  have hf0 := fr_enter (m := fn.ntmps - ds.length) hl hv
  have hsz : vs.toArray.size = ds.length := by simp [hl]
  rw [hsz]
  refine Code.wp_mono (fun e a' w' ⟨f', p', q, hh', hf'⟩ => ?_) ((h hp).on hh hf0)
  obtain ⟨hx, d2, d3, d4, d5, e2, e3, e4, e5, h2, h3, h4, h5, l2, l3, l4, l5, kept, ⟨junk, rfl⟩, hk'⟩ := q
  have hw : ∀ k, Imm P0 B (junk ++ (kept ++ hp)) k → Imm P0 B (kept ++ hp) k := fun k hk => ⟨hk.1, fun o ho => hk.2 o (List.mem_append.2 (.inr ho))⟩
  have g2 := e2.weak (l2 _ _ _ (hf'.rd t _ h2)) hw
  have g3 := e3.weak (l3 _ _ _ (hf'.rd u _ h3)) hw
  have g4 := e4.weak (l4 _ _ _ (hf'.rd v _ h4)) hw
  have g5 := e5.weak (l5 _ _ _ (hf'.rd x _ h5)) hw
  have hT : (dT [e2, e3, e4, e5]).rd (Imm P0 B (kept ++ hp)) w' (.tuple #[a'.tmps.getD t undef, a'.tmps.getD u undef, a'.tmps.getD v undef, a'.tmps.getD x undef]) := ⟨[_, _, _, _], rfl, rfl, fun i e y he hy => by
    match i, he, hy with
    | 0, he, hy => cases he; cases hy; exact g2
    | 1, he, hy => cases he; cases hy; exact g3
    | 2, he, hy => cases he; cases hy; exact g4
    | 3, he, hy => cases he; cases hy; exact g5⟩
  have hh3 : Hp P0 B _ (kept ++ hp) w' := Hp.drops junk _ hh'
  cases e with
  | normal => exact ⟨hf'.defers, _, results_tmp4 hr _ _, _, _, kept, rfl, ⟨e2, e3, e4, e5, rfl, hk'⟩, hh3, hT⟩
  | ret => exact ⟨hf'.defers, _, results_tmp4 hr _ _, _, _, kept, rfl, ⟨e2, e3, e4, e5, rfl, hk'⟩, hh3, hT⟩
  | _ => exact hx.elim⟩
theorem CallC.lend {V : Int} {l : List (List Int)} {v : Value} {e : TypeId} {K : Dat → List HObj → Prop} (h : CallC P f ([dS Cls (V, l)] ++ ([] : List Value).map dX) [] K)
    (hK : ∀ d hp2, K d hp2 → (∀ (I I' : Nat → Prop) (w : World) (u : Value), d.rd I w u → d.rd I' w u) ∧ ∃ o : HObj, hp2 = [o] ∧ ∀ (I I' : Nat → Prop) (w : World), o.ok I w → o.ok I' w) :
    CallC P f ([dAgg [dI V, dX v]] ++ ([] : List Value).map dX) [hRow v e Ints l] (fun d hp2 => ∃ o, K d [o] ∧ hp2 = [o, hRow v e Ints l]) := ⟨fun P0 B w0 hp vs W hh hl hv => by
  have hrow : (dS Rows l).rd (Imm P0 B hp) W v := Own.keep hh
  have hp0 : Hp (fun k => k < W.heap.size) W.heap.size W ([] ++ []) W := ⟨Nat.le_refl _, Ext.refl W, (fun o ho => by cases ho), (fun o ho => by cases ho), List.Pairwise.nil⟩
  have harg : ∀ (i : Nat) (d : Dat), ([dS Cls (V, l)] ++ ([] : List Value).map dX)[i]? = some d → d.rd (Imm (fun k => k < W.heap.size) W.heap.size ([] ++ [])) W (vs.getD i undef) := fun i d hd => by
    match i, hd with
    | 0, hd =>
      cases hd
      obtain ⟨cs, h1, h2, h3, h4⟩ := hv 0 _ rfl
      have hr2 : (dS Rows l).rd (Imm (fun k => k < W.heap.size) W.heap.size ([] ++ [])) W v := (dS Rows l).weak ((dS Rows l).bound hrow) fun k hk => ⟨.inl hk.2, fun o ho => by cases ho⟩
      refine agg_le (d0 := dI V) (d1 := dS Rows l) (Dat.le_refl _) (Dat.le_refl _) _ _ _ ⟨cs, h1, h2, h3, fun k c e hc he => ?_⟩
      match k, he with
      | 0, he => cases he; exact h4 0 c _ hc rfl
      | 1, he =>
        cases he
        have : c = v := h4 1 c _ hc rfl
        rw [this]; exact hr2
  refine Calls.mono (h.out (fun k => k < W.heap.size) W.heap.size W [] vs W hp0 hl harg) fun e' W' ⟨u, d, hp2, he, hk, hh2, hd⟩ => ?_
  obtain ⟨hb, o, rfl, hob⟩ := hK d hp2 hk
  have hE : Ext W W' := hh2.below
  exact ⟨u, d, [o, hRow v e Ints l], he, ⟨o, hk, rfl⟩, hh.push hE (fun k hk => hh2.own o (by simp) k hk) (hob _ _ _ (hh2.ok o (by simp))), hb _ _ _ _ hd⟩⟩
end
theorem run_o (X : Lay) (V : Nat) (am : List Int) (cls : List S43.Cl) (hV : V ≤ 10) (hA : am.length ≤ 10) (hAs : ∀ x ∈ am, x ≠ 0 ∧ x.natAbs ≤ V) (hcl : cls.length ≤ 1000000) (hw : WfL V cls) (hX : X.cf = 0) :
    CallC Try.prog 48 ([dX (ptrS X), dS Ints am] ++ ([] : List Value).map dX) (runO X V (beginS cls) [] []) (fun d hp2 => ∃ k res lr Y s v', d = dT [dI k, dX v'] ∧ hp2 = [oS Y V s, oN Y lr, hRow v' tI RI res] ∧ Y.b = X.b ∧ RunR V am cls k res lr) := by
  have hr : ∀ c ∈ cls, (∀ x ∈ c, x ≠ 0 ∧ x.natAbs ≤ V) ∧ c.Pairwise fun x y => x.natAbs ≠ y.natAbs := fun c hc => ⟨(hw c hc).rng, (hw c hc).inc.imp fun h => by omega⟩
  have hG : GInv V am cls ⟨beginS cls, []⟩ := GInv.init hr
  have h := D.run_w X V am cls ⟨beginS cls, []⟩ hV hA hAs hcl hG (by rw [hX]; rfl) (fun c hc => by cases hc) (fun Y r x hg hx hxt => by
    have hb := ginv_bnd hg hV hA hcl
    have hxm := hAs x (List.mem_of_getElem? hx)
    exact blame_c Y V r.s am x (by omega) hg.inv (by omega) hxm.2 (fun y hy => (hAs y hy).2) (by omega))
  refine ⟨fun P0 B w0 hp vs W hh hl hv => ?_⟩
  refine Calls.mono (h.out P0 B w0 hp vs W hh hl hv) fun e' W' ⟨u, d, hp2, he, hk, hh2, hd⟩ => ?_
  obtain ⟨v, v', q, hq2, rfl, rfl, Y, s, lr, k, res, rs, vT, vB, hvk, hbx, rfl, rfl, hrs, hRR, hSS⟩ := hk
  obtain ⟨ts, rfl, htl, hts⟩ := hd
  obtain ⟨u0, u1, rfl⟩ : ∃ u0 u1, ts = [u0, u1] := by
    match ts, htl with
    | [u0, u1], _ => exact ⟨u0, u1, rfl⟩
  have h0 : u0 = v := hts 0 _ u0 rfl rfl
  have h1 : u1 = v' := hts 1 _ u1 rfl rfl
  rw [hvk] at h0
  subst h0 h1
  obtain ⟨J, hJ⟩ : ∃ J : List HObj, J = oV ({ Y with vT := vT, vB := vB }) (backS s 0) :: oL ({ Y with vT := vT, vB := vB }) (backS s 0) :: oR ({ Y with vT := vT, vB := vB }) (backS s 0) :: oT ({ Y with vT := vT, vB := vB }) (backS s 0) :: oB ({ Y with vT := vT, vB := vB }) (backS s 0) :: oW Y :: oC Y s :: (rowsC Y s ++ rowsW Y V s) := ⟨_, rfl⟩
  have heq : core { Y with vT := vT, vB := vB } V (backS s 0) ++ (oW Y :: oC Y s :: (rowsC Y s ++ (rowsW Y V s ++ (oN Y lr :: rs)))) ++ hp = oS { Y with vT := vT, vB := vB } V (backS s 0) :: (J ++ (oN Y lr :: (rs ++ hp))) := by
    rw [hJ]
    simp only [core, List.append_assoc, List.cons_append, List.nil_append]
  rw [heq] at hh2
  obtain ⟨h3, h4⟩ := hh2.perm (List.perm_middle (a := oS { Y with vT := vT, vB := vB } V (backS s 0)) (l₁ := J) (l₂ := oN Y lr :: (rs ++ hp))).symm
  have hh5 := Hp.drops J _ h3
  rcases hrs with rfl | ⟨rfl, rfl, rfl⟩
  · exact ⟨_, dT [dI k, dX u1], [oS { Y with vT := vT, vB := vB } V (backS s 0), oN Y lr, hRow u1 tI RI res], he, ⟨k, res, lr, { Y with vT := vT, vB := vB }, backS s 0, u1, rfl, rfl, hbx, hRR⟩, hh5, dT2_rd rfl rfl⟩
  · have h6 : Hp P0 B w0 (hRow nilV tI RI [] :: oS { Y with vT := vT, vB := vB } V (backS s 0) :: oN Y lr :: hp) W' := hh5.push (Ext.refl _) (by simp [hRow, nilV, Value.ownBlock]) Own.nil
    obtain ⟨h7, _⟩ := h6.perm ((List.Perm.swap _ _ _).trans ((List.Perm.swap _ _ _).cons _))
    exact ⟨_, dT [dI k, dX nilV], [oS { Y with vT := vT, vB := vB } V (backS s 0), oN Y lr, hRow nilV tI RI []], he, ⟨k, [], lr, { Y with vT := vT, vB := vB }, backS s 0, nilV, rfl, rfl, hbx, hRR⟩, h7, dT2_rd rfl rfl⟩
set_option linter.unusedSimpArgs false
set_option linter.unusedVariables false
set_option maxHeartbeats 2000000
set_option maxRecDepth 100000
set_option maxHeartbeats 8000000 in
theorem solveO_c (V : Nat) (l : List (List Int)) (hV : V ≤ 10) (hck : checkI (V : Int) l = 0) (hm : allF V l [] ≠ []) :
    CallC Try.prog 16 ([dS Cls ((V : Int), l)] ++ ([] : List Value).map dX) [] (fun d hp2 => ∃ e2 e3 e4 e5, d = dT [e2, e3, e4, e5] ∧ ∃ v m, e2 = dI 1 ∧ e3 = dX v ∧ e4 = dX nilV ∧ e5 = dI 0 ∧ hp2 = [hRow v tI RI m] ∧ m ∈ allF V l []) := by
  obtain ⟨_, _, hll, hcl⟩ := checkI_zero hck
  have hl : WfL V l := (clausesI_iff (by omega)).1 hcl
  have h1 := check43_p (V : Int) l (irr_wf (by omega) hl)
  rw [hck] at h1
  have hb := begin_z V l (by omega) hl (by omega)
  have hr := fun (X : Lay) (hX : X.cf = 0) => run_o X V [] l hV (by simp) (fun x hx => by cases hx) (by omega) hl hX
  refine CallC.intro4O Try.func16 rfl rfl (fun hp => ?_)
  -- @kinds solver.Solve
  simp only [Try.ntmps16, List.length_cons, List.length_nil, List.length_append, List.length_map, Nat.reduceAdd, Nat.reduceSub, List.replicate_succ, List.replicate_zero, List.cons_append, List.nil_append, List.map_cons, List.map_nil, List.append_assoc]
  (repeat' (first |  (refine WC.only 6 (Halt.go ?_)) | (apply WL.opN; exact yF; dsimp only [setD, z0, z1]) | refine WL.nil ?_ | refine WC.seqK fun Kx hK => ?_ | (refine hK _ _ ?_; clear hK) | refine WC.region ?_ |  (refine WL.callC (hp1 := []) (caps := []) hb Try.call47 OpD.f (by (exact aD)) ?_; rintro d' hp2 ⟨X, hX, rfl, rfl⟩; dsimp only [setD, z0, z1]) |  (refine WL.callC (hp1 := runO X V (beginS l) [] []) (caps := []) (hr X hX) Try.call48 OpD.f (ArgsD.cons (OpD.t rfl) (ArgsD.cons ⟨Dat.le_nil⟩ ArgsD.nil)) ?_; rintro d' hp2 ⟨k, res, lr, Y, s, vr, rfl, rfl, hYb, hRR⟩; dsimp only [setD, z0, z1, List.cons_append, List.nil_append]) | (apply WL.opG; (focus (first | exact wN | (apply SYG.yes; (exact wY); ((first | (apply SY.call (h1) Try.call38; (exact aD)) | ((first | apply SY.move | apply SY.assign | apply SY.lss | apply SY.leq | apply SY.eql | apply SY.neq) <;> (exact oD)) | (apply SY.fldP0 clT; exact OpD.t rfl) | (apply SY.fldP1 clT; exact OpD.t rfl) | (apply SY.extract; (exact oD); rfl) | (apply SY.box; (exact oD); (exact hD)) | fail); all_goals infer_instance)))); dsimp only [setD, z0, z1]) | (apply WC.condN; (exact oD); all_goals (intro h; try exact xD)) | refine WC.skip ?_))
  all_goals try (exfalso; first | contradiction | omega)
  refine ⟨?_⟩
  rcases hRR.is with rfl | rfl
  · have hfin := (hRR.yes rfl).1
    clear hRR
    ((repeat' (first | (apply WL.opN; exact yF; dsimp only [setD, z0, z1]) | refine WL.nil ?_ | refine WC.seqK fun Kx hK => ?_ | (refine hK _ _ ?_; clear hK) | refine WC.region ?_ | (apply WL.opG; (focus (first | exact wN | (apply SYG.yes; (exact wY); ((first | ((first | apply SY.move | apply SY.assign | apply SY.lss | apply SY.leq | apply SY.eql | apply SY.neq) <;> (exact oD)) | fail); all_goals infer_instance)))); dsimp only [setD, z0, z1]) | (apply WC.condD; (exact oD); all_goals (intro h; try exact xD)) | refine WC.ret ?_ | refine WC.block ?_ | refine ThenD.r ?_ | refine InBlockD.r ?_)); all_goals (first | ((repeat clear hK); (repeat clear Kx))))
    all_goals try (exfalso; first | contradiction | omega)
    exact ⟨trivial, _, _, _, _, dI 1, dX vr, dX nilV, dI 0, rfl, rfl, rfl, rfl, Dat.le_refl _, Dat.le_refl _, Dat.le_refl _, le_ii rfl, [_], ⟨[_, _], rfl⟩, vr, res, rfl, rfl, rfl, rfl, rfl, hfin⟩
  · obtain ⟨q1, q2⟩ := hRR.no rfl
    exfalso
    cases hx : allF V l [] with
    | nil => exact hm hx
    | cons m t => exact q2 m (by rw [hx]; simp) (fun x hx => by rw [List.sublist_nil.1 q1] at hx; cases hx)
end Go.Proofs.Ytpiidgcljlalmaa
