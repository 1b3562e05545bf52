/- Part 1: walks by contracts, and plain laws. -/
import Derived.Test.YtpiidgcljlalmaaVd7
set_option linter.unusedVariables false
set_option linter.unusedSimpArgs false
set_option linter.unusedSectionVars false
namespace Go.Proofs.Ytpiidgcljlalmaa
open Go.RowKit

section
variable {P : Program} {ops : Array Oper} {hp : List HObj} {md : Region.Mode} {w : World}

end

section
variable {P : Program} {ops : Array Oper} {hp : List HObj} {o : Oper} {fr : List Dat} {d : Dat} {Q : Post} {rest : List Oper}
variable {dst : Option Tmp} {ty : TypeId} {ps : String} {af : Array Edge} {g : Option (Nat × Bool)}
variable {t e : TypeId} {n bytes : Nat} {z : Value} {ag : Bool}
theorem SY.eqlB {x y : Operand} {T T2 : TypeId} {p q : Bool} (hx : OpD fr x (dB p)) (hy : OpD fr y (dB q)) (hq : ∀ (x y : Operand) (p q : Bool) w, (do eqGuard .eql T x y (.bool p) (.bool q); Go.binOp .eql T (.bool p) (.bool q)).run P w = .ok (.bool (p == q)) w) : SY P ops hp { dst := dst, op := .binOp .eql T x y T2, type := ty, pos := ps, after := af, guard := g } fr (dB (p == q)) := SY.val fun {I w a} ho => by
  have h1 : a.eval x = .bool p := hx.get (by simp [Op.operands]) ho
  have h2 : a.eval y = .bool q := hy.get (by simp [Op.operands]) ho
  refine ⟨.bool (p == q), ?_, rfl⟩
  have := hq x y p q w
  unfold execOp
  simp only [h1, h2]
  rw [Sem.run_bind, this]
  simp
end

end Go.Proofs.Ytpiidgcljlalmaa
namespace Go.Proofs.Ytpiidgcljlalmaa
open Go.RowKit
section
variable {P : Program} {ops : Array Oper} {hp : List HObj} {fr : List Dat} {d : Dat} {Q : Post} {rest : List Oper}
variable {dst : Option Tmp} {ty : TypeId} {ps : String} {af : Array Edge} {g : Option (Nat × Bool)} {T T1 T2 : TypeId} {b off k n : Nat} {ds ds' : List Dat}
theorem WC.freezeS {c : Code} {t : Nat} (hp0 : fr[t]? = some (dX (.pointer (some ⟨b, 0, none⟩)))) (hn : 0 < n) (hl : ds.length = n) (h : WC P Q c (fr.set t (dP n true (dAgg ds))) hp) : WC P Q c fr (hStr b T ds :: hp) := by
  refine WC.of fun P0 B w0 w a hh hf => ?_
  obtain ⟨cs, c1, c2, c3, c4⟩ := hh.ok (hStr b T ds) (by simp)
  have hown := hh.own (hStr b T ds) (by simp) b rfl
  refine h.on hh.drop ⟨hf.defers, by rw [hf.size, List.length_set], fun t' d' hd' => ?_⟩
  by_cases htt : t = t'
  · subst htt
    rw [List.getElem?_set] at hd'
    simp only [if_true] at hd'
    split at hd'
    · cases hd'
      have hv : a.tmps.getD t undef = .pointer (some ⟨b, 0, none⟩) := hf.rd t _ hp0
      rw [hv]
      refine ⟨b, 0, .agg cs.toArray, rfl, ⟨⟨.inr hown.1, fun o' ho' hk => (List.pairwise_cons.1 hh.apart).1 o' ho' b rfl hk⟩, cs, by omega, hn, c3, fun j c hc => ?_, rfl⟩, cs, rfl, c2, c3, fun k c d hc hd => d.weak (c4 k c d hc hd) Imm.sub⟩
      simp [World.cell?, c1, hc]
    · cases hd'
  · rw [List.getElem?_set_ne htt] at hd'
    exact d'.weak (hf.rd t' d' hd') Imm.sub
end
end Go.Proofs.Ytpiidgcljlalmaa
namespace Go.Proofs.Ytpiidgcljlalmaa
open Go.RowKit
set_option maxRecDepth 100000
theorem eqBB : ∀ (x y : Operand) (p q : Bool) w, (do eqGuard .eql 4 x y (.bool p) (.bool q); Go.binOp .eql 4 (.bool p) (.bool q)).run Try.prog w = .ok (.bool (p == q)) w := by
  intro x y p q w; cases p <;> cases q <;> go_simp
end Go.Proofs.Ytpiidgcljlalmaa
namespace Go.Proofs.Ytpiidgcljlalmaa
open Go.RowKit
section
variable {P : Program} {ops : Array Oper} {md : Region.Mode} {fr fr' : List Dat} {hp : List HObj} {C : List HObj → Prop}
def rdB (md : Region.Mode) (ops : Array Oper) (n : Nat) : List Nat → Array Bool → Bool
  | [], _ => true
  | i :: r, listed => decide (i < n) && (Region.ready md ops listed).contains i && Region.free md ops listed i && rdB md ops n r (listed.setIfInBounds i true)
theorem wpAnyM_rd {n f0 : Nat} {L : Array Bool → List Dat → List HObj → Prop} {Q : List Dat → Prop} (hs : Region.sinkB md ops n = true) (hc : chainB2 md ops n = true) (hn : n < ops.size) (hdone : ∀ listed a c, L listed a c → ∀ j ∈ Region.ready md ops listed, n ≤ j) :
    ∀ (l : List Nat) (listed : Array Bool) (fr : List Dat), HeadInv md ops n listed → rdB md ops n l listed = true → WRd P ops C Q l fr → (∀ fr', Q fr' → HeadInv md ops n (l.foldl (fun s i => s.setIfInBounds i true) listed) → wpAnyM P md ops C n L f0 (l.foldl (fun s i => s.setIfInBounds i true) listed) fr' hp) →
    wpAnyM P md ops C n L (f0 + l.length) listed fr hp
  | [], listed, fr, inv, _, h, hk => by
    cases h
    rename_i h
    exact hk _ h inv
  | i :: r, listed, fr, inv, hB, h, hk => by
    cases h
    rename_i o d ho hy hr
    simp only [rdB, Bool.and_eq_true, decide_eq_true_eq] at hB
    obtain ⟨⟨⟨hin, hrd⟩, hf⟩, hB'⟩ := hB
    have hr' : i ∈ Region.ready md ops listed := by simpa using hrd
    have := wpAnyM_first ho hs hc hn hin hdone (f0 + r.length) listed fr hp inv (Region.free_spec ho hf) hr' hy (wpAnyM_rd hs hc hn hdone r _ _ (inv.set hr' hin) hB' hr hk)
    rw [List.length_cons, ← Nat.add_assoc]
    exact this
end
end Go.Proofs.Ytpiidgcljlalmaa
namespace Go.Proofs.Ytpiidgcljlalmaa
open Go.RowKit
theorem all_filter {l : List (List Int)} : ∀ (n : Nat) (a : List Int), allF n l a = (allF n [] a).filter fun m => l.all fun c => trueI c m
  | 0, a => by
    have e0 : allF 0 [] a = [a] := rfl
    rw [e0]
    unfold allF
    by_cases h : l.all (fun c => trueI c a) = true
    · rw [if_pos h]
      exact (List.filter_cons_of_pos (p := fun m => l.all fun c => trueI c m) (l := []) h).symm
    · rw [if_neg h]
      exact (List.filter_cons_of_neg (p := fun m => l.all fun c => trueI c m) (l := []) h).symm
  | n + 1, a => by
    unfold allF
    rw [all_filter (l := l) n (a ++ [(a.length : Int) + 1]), all_filter (l := l) n (a ++ [-((a.length : Int) + 1)]), List.filter_append]
theorem all_more {l : List (List Int)} {V : Nat} {c : List Int} (hc : ∀ x ∈ c, x ≠ 0 ∧ x.natAbs ≤ V) : (allF V l []).length = (allF V (l ++ [c]) []).length + (allF V (l ++ c.map fun x => [-x]) []).length := by
  rw [all_filter V (l := l), all_filter V (l := l ++ [c]), all_filter V (l := l ++ c.map fun x => [-x])]
  have key : ∀ k : List (List Int), (∀ m ∈ k, m.length = V ∧ PosL m) → (k.filter fun m => l.all fun c => trueI c m).length = (k.filter fun m => (l ++ [c]).all fun c => trueI c m).length + (k.filter fun m => (l ++ c.map fun x => [-x]).all fun c => trueI c m).length := by
    intro k
    induction k with
    | nil => intro _; rfl
    | cons m k ih =>
      intro h
      have ih := ih fun m hm => h m (by simp [hm])
      obtain ⟨m1, m2⟩ := h m (by simp)
      have hM := pos_modl m1 m2
      have e1 : ((l ++ [c]).all fun c => trueI c m) = ((l.all fun c => trueI c m) && trueI c m) := by simp
      have e2 : ((l ++ c.map fun x => [-x]).all fun c => trueI c m) = ((l.all fun c => trueI c m) && !trueI c m) := by
        rw [List.all_append]
        congr 1
        rw [List.all_map, Bool.eq_iff_iff, List.all_eq_true, Bool.not_eq_true']
        constructor
        · intro q
          cases h5 : trueI c m with
          | false => rfl
          | true =>
            obtain ⟨y, y1, y2⟩ := trueI_iff.1 h5
            obtain ⟨z, z1, z2⟩ := trueI_iff.1 (q y y1)
            rw [List.mem_singleton.1 z1] at z2
            exact absurd z2 (hM.cons y y2)
        · intro q x hx
          refine trueI_iff.2 ⟨-x, by simp, ?_⟩
          rcases hM.total x (hc x hx).1 (hc x hx).2 with h6 | h6
          · rw [trueI_iff.2 ⟨x, hx, h6⟩] at q; cases q
          · exact h6
      rw [List.filter_cons, List.filter_cons, List.filter_cons, e1, e2]
      cases h3 : l.all fun c => trueI c m <;> cases h4 : trueI c m <;> simp [ih] <;> omega
  exact key _ fun m hm => by
    obtain ⟨h1, h2, _⟩ := model_mem.1 hm
    exact ⟨h1, h2⟩
end Go.Proofs.Ytpiidgcljlalmaa
namespace Go.Proofs.Ytpiidgcljlalmaa
open Go.RowKit
set_option maxRecDepth 100000
theorem clause43_p (V : Nat) (hV : V ≤ 4096) (c : List Int) : Fn Try.prog 27 [dI (V : Int), dS Ints c] (dI (clauseI (V : Int) none c)) := Fn.old2 fun I w u v hu hv => by
  cases (hu : _ = _)
  refine (clause_c (V : Int) w hv (by omega) (by omega)).mono ?_
  rintro e w' ⟨rfl, n, rfl⟩
  exact ⟨_, rfl, (Ext.refl _).drewN n, rfl⟩
end Go.Proofs.Ytpiidgcljlalmaa
namespace Go.Proofs.Ytpiidgcljlalmaa
open Go.RowKit
theorem few43_len {V : Int} {l : List (List Int)} (h : fewB V l = true) (hc : checkI V l = 0) : l.length ≤ 40 := by
  have hs : sizesI V l.length = 0 := by
    unfold checkI at hc
    by_cases h1 : sizesI V l.length = 0
    · exact h1
    · rw [if_pos h1] at hc; exact absurd hc h1
  unfold fewB at h
  rw [if_neg (by simp [hs])] at h
  split at h
  · exact (of_decide_eq_true h).1
  · cases h
theorem check_of {V : Nat} (hV : V ≤ 4096) {r : List (List Int)} (hw : WfL V r) (hl : r.length ≤ 32768) : checkI (V : Int) r = 0 := by
  have hs0 : sizesI (V : Int) r.length = 0 := by unfold sizesI; rw [if_neg (by omega), if_neg (by omega)]
  unfold checkI
  rw [hs0, if_neg (by simp)]
  exact (clausesI_iff hV).2 hw
theorem dP_mono {n : Nat} {ag : Bool} {d d' : Dat} (h : d.le d') : (dP n ag d).le (dP n ag d') := fun _ _ _ ⟨b, off, u, q1, q2, q3⟩ => ⟨b, off, u, q1, q2, h _ _ _ q3⟩
section
variable {P : Program} {ops : Array Oper} {hp : List HObj} {fr : List Dat} {Q : Post} {rest : List Oper} {b : Nat} {T : TypeId}
theorem WC.freezeQ {c : Code} {t : Nat} {V : Int} {l : List (List Int)} (hp0 : fr[t]? = some (dX (.pointer (some ⟨b, 0, none⟩)))) (h : WC P Q c (fr.set t (dP 2 true (dS Cls (V, l)))) hp) : WC P Q c fr (hStr b T [dI V, dS Rows l] :: hp) := by
  refine WC.freezeS hp0 (n := 2) (by decide) rfl (h.weak (by simp) fun t' d hd => ?_)
  obtain ⟨ht, _⟩ := List.getElem?_eq_some_iff.1 hp0
  rw [List.getElem?_set] at hd ⊢
  by_cases htt : t = t'
  · subst htt
    rw [if_pos rfl, if_pos ht] at hd ⊢
    cases hd
    exact ⟨_, rfl, dP_mono (agg_le (Dat.le_refl _) (Dat.le_refl _))⟩
  · rw [if_neg htt] at hd ⊢
    exact ⟨d, hd, Dat.le_refl _⟩
theorem WC.joinX {α : Type} {y : Code} {l : Array Oper} {m : Bool} (id : Nat) (ups : α → List (Nat × Dat)) (H : α → List HObj) (h1 : Halt (WC P (fun e f q => e = .normal ∧ ∃ x, q.Perm (H x) ∧ LeF f (upds fr (ups x))) (.region id l m) fr hp)) (h2 : ∀ x, Halt (WC P Q y (upds fr (ups x)) (H x))) : WC P Q (.seq (.region id l m) y) fr hp :=
  WC.seq (h1.go.mono fun e f q ⟨he, x, hq, hl⟩ => by
    subst he
    exact WC.perm hq (WC.weakF hl (h2 x).go))
end
theorem asn_neg {V : Nat} {c : List Int} (hc : WfC V c) : Asn V (ngI c) := ⟨fun x hx => by
    obtain ⟨y, y1, rfl⟩ := List.mem_map.1 hx
    have := hc.rng y y1
    omega, by
    unfold ngI
    rw [List.pairwise_map]
    exact hc.inc.imp fun h => by omega⟩
abbrev negC (c : List Int) : List (List Int) := c.map fun x => [-x]
theorem negC_take {c : List Int} {i : Nat} (h : i < c.length) : negC (c.take (i + 1)) = negC (c.take i) ++ [[-(c[i])]] := by
  unfold negC
  rw [List.take_succ_eq_append_getElem h, List.map_append]; rfl
theorem wf_one {V : Nat} {x : Int} (h : x ≠ 0 ∧ x.natAbs ≤ V) : WfC V [x] := ⟨fun y hy => by rw [List.mem_singleton.1 hy]; exact h, List.pairwise_singleton _ _⟩
theorem neg_mem {V : Nat} {l : List (List Int)} {c m : List Int} : m ∈ allF V (l ++ negC c) [] ↔ m ∈ allF V l [] ∧ ∀ x ∈ c, -x ∈ m := by
  rw [model_mem, model_mem]
  constructor
  · rintro ⟨h1, h2, h3⟩
    refine ⟨⟨h1, h2, fun d hd => h3 d (List.mem_append.2 (.inl hd))⟩, fun x hx => ?_⟩
    obtain ⟨y, y1, y2⟩ := trueI_iff.1 (h3 [-x] (List.mem_append.2 (.inr (List.mem_map.2 ⟨x, hx, rfl⟩))))
    rwa [List.mem_singleton.1 y1] at y2
  · rintro ⟨⟨h1, h2, h3⟩, h4⟩
    refine ⟨h1, h2, fun d hd => ?_⟩
    rcases List.mem_append.1 hd with hd | hd
    · exact h3 d hd
    · obtain ⟨x, hx, rfl⟩ := List.mem_map.1 hd
      exact trueI_iff.2 ⟨-x, by simp, h4 x hx⟩
theorem imp_none {V : Nat} {l : List (List Int)} {c : List Int} (hc : WfC V c) : impB V l c = decide ((allF V (l ++ negC c) []).length = 0) := by
  cases hi : impB V l c with
  | true =>
    symm
    rw [decide_eq_true_eq, List.length_eq_zero_iff]
    cases hm : allF V (l ++ negC c) [] with
    | nil => rfl
    | cons m t =>
      obtain ⟨h1, h2⟩ := neg_mem.1 (show m ∈ allF V (l ++ negC c) [] by rw [hm]; simp)
      unfold impB at hi
      obtain ⟨x, x1, x2⟩ := trueI_iff.1 (List.all_eq_true.1 hi m h1)
      exact absurd (h2 x x1) ((sat_model h1).1 x x2)
  | false =>
    symm
    rw [decide_eq_false_iff_not, List.length_eq_zero_iff]
    intro h0
    unfold impB at hi
    rw [List.all_eq_false] at hi
    obtain ⟨m, h1, h2⟩ := hi
    have : m ∈ allF V (l ++ negC c) [] := neg_mem.2 ⟨h1, fun x hx => by
      have hr := hc.rng x hx
      rcases (sat_model h1).2.1 x hr.1 hr.2 with q | q
      · exact absurd (trueI_iff.2 ⟨x, hx, q⟩) h2
      · exact q⟩
    rw [h0] at this; cases this
theorem under_pos {V : Nat} {l : List (List Int)} {c : List Int} {v : Int} {m r : List Int} (h : UnderR V l (ngI c) v m r) : (v = 1 ∧ 0 < (allF V (l ++ negC c) []).length) ∨ (v = 2 ∧ (allF V (l ++ negC c) []).length = 0) := by
  rcases h with ⟨h1, _, h2, h3⟩ | ⟨h1, _, h2, h3⟩
  · exact .inl ⟨h1, List.length_pos_of_mem (neg_mem.2 ⟨h2, fun x hx => h3 (-x) (List.mem_map.2 ⟨x, hx, rfl⟩)⟩)⟩
  · refine .inr ⟨h1, ?_⟩
    rw [List.length_eq_zero_iff]
    cases hm : allF V (l ++ negC c) [] with
    | nil => rfl
    | cons m t =>
      obtain ⟨q1, q2⟩ := neg_mem.1 (show m ∈ allF V (l ++ negC c) [] by rw [hm]; simp)
      refine absurd (fun x hx => ?_) (h3 m q1)
      obtain ⟨y, y1, rfl⟩ := List.mem_map.1 (h2.subset hx)
      exact q2 y y1
set_option linter.unusedSimpArgs false
set_option linter.unusedVariables false
set_option maxHeartbeats 2000000
set_option maxRecDepth 100000
theorem eqNilS : ∀ (x y : Operand) ad m c w, (do eqGuard .eql 22 x y (.slice ad m c) (.slice none 0 0); Go.binOp .eql 22 (.slice ad m c) (.slice none 0 0)).run Try.prog w = .ok (.bool ad.isNone) w := by
  intro x y ad m c w
  cases ad <;> (go_simp; try (unfold Go.binOp; simp only; unfold Op.equal Op.maxDepth Op.equalIn; simp [run_underlying Try.underlying22]))
theorem cloneR_c (xs : List (List Int)) (hl : xs.length ≤ 1000000) : CallC Try.prog 28 ([dS Rows xs] ++ ([] : List Value).map dX) [] fun d' hp2 => ∃ v, d' = dX v ∧ hp2 = [hRow v 25 Ints xs] := by
  refine CallC.nil1 ?_
  (refine CallC.intro Try.func28 rfl rfl (fun hp => ?_); simp only [Try.ntmps28, List.length_cons, List.length_nil, List.length_append, List.length_map, Nat.reduceAdd, Nat.reduceSub, List.replicate_succ, List.replicate_zero, List.cons_append, List.nil_append, List.map_cons, List.map_nil, List.append_assoc])
  ((repeat' (first |  (refine WL.openE 4 rfl fun b hb => ?_; dsimp only [z0, z1]) | (apply WL.opN; exact yF; dsimp only [setD, z0, z1]) | refine WL.nil ?_ | refine WC.seqK fun Kx hK => ?_ | (refine hK _ _ ?_; clear hK) | refine WC.region ?_ |  (apply WL.build01 elSi Ints; (intro _; dsimp only [setD, z0, z1]); all_goals (try infer_instance)) | ((first | apply WL.appK | apply WL.app1); (exact eD); exact OpD.t rfl; (exact oD); decide; (exact lD); (intro _; dsimp only [setD, z0, z1]); all_goals (try infer_instance)) | (apply WL.opN; (focus ((first | (apply SY.eqNil; exact OpD.t rfl; (exact fun _ _ _ h => nil_A h); exact len_A; exact eqNilS) | fail); all_goals infer_instance)); dsimp only [setD, z0, z1]) | (apply WC.cond; (exact oD); all_goals (intro h; try exact xD)) | refine WC.skip ?_ | refine WC.ret ?_ | refine ThenD.r ?_)); all_goals (first | ((repeat clear hK); (repeat clear Kx))))
  · exact ⟨trivial, _, [], rfl, rfl, _, rfl, .inr ⟨rfl, hb h, rfl⟩⟩
  · exact ⟨trivial, _, [_], rfl, rfl, _, rfl, .inl (by rw [List.nil_append])⟩
theorem negated_p (V : Nat) (hV : V ≤ 10) (c : List Int) (hc : ∀ x ∈ c, x ≠ 0 ∧ x.natAbs ≤ V) (hcn : c.length ≤ 1000) : Fn Try.prog 31 [dS Ints c] (dS Ints (ngI c)) := by
  (refine Fn.intro1 Try.func31 rfl rfl ?_; simp only [Try.ntmps31, List.length_cons, List.length_nil, Nat.reduceAdd, Nat.reduceSub, List.replicate_succ, List.replicate_zero, List.cons_append, List.nil_append])
  refine WC.nilRow 3 RI ?_
  (repeat' (first | (apply WL.opN; exact yF; dsimp only [setD, z0, z1]) | refine WL.nil ?_ | refine WC.seqK fun Kx hK => ?_ | (refine hK _ _ ?_; clear hK) | refine WC.region ?_ | (apply WL.opN; (focus ((first | (apply SY.len; (exact oD); (exact nD); (exact uD)) | fail); all_goals infer_instance)); dsimp only [setD, z0, z1]) | refine WC.block ?_))
  all_goals try (exfalso; first | contradiction | omega)
  (refine WC.loopU (X := Nat × Value) (fun x => [(8, dI (x.1 : Int)), (3, dX x.2), (5, dA), (9, dA), (10, dA), (11, dA), (12, dA), (13, dA), (14, dA), (15, dA), (16, dA), (17, dA)]) (fun x => ([hRow x.2 3 RI (ngI (c.take x.1))])) (fun x => c.length - x.1) (fun x => x.1 ≤ c.length) (0, nilV) ?start ?frame0 ?objs0 ?round)
  case start => exact Nat.zero_le _
  case frame0 => ((try dsimp only [upds, z0, z1]); repeat (first | exact LeF.nil | refine LeF.co (k := ?_)))
  case objs0 => rfl
  case round =>
    rintro ⟨i, vo⟩ hi
    simp only at hi
    dsimp only [upds, z0, z1]
    by_cases hil : i < c.length
    · have hlti : (i : Int) < (c.length : Int) := by omega
      obtain ⟨x, hx⟩ : ∃ x, c[i] = x := ⟨_, rfl⟩
      have hxr := hc x (by rw [← hx]; exact List.getElem_mem hil)
      have et := ngI_take (c := c) hil
      rw [hx] at et
      have hcln : (ngI (c.take i)).length = i := by simp [ngI]; omega
      have h24 : ((ngI (c.take i)).length + 1) * 8 ≤ 140737488355328 := by omega
      ((repeat' (first | (apply WL.opN; exact yF; dsimp only [setD, z0, z1]) | refine WL.nil ?_ | refine WC.seqK fun Kx hK => ?_ | (refine hK _ _ ?_; clear hK) | refine WC.region ?_ | ((first | apply WL.pushK | apply WL.push1); (exact eD); exact OpD.t rfl; (exact oD); (intro _; exact hD); (exact (by simp)); (exact (by simp)); (first | exact ⟨by decide, by decide⟩ | skip); decide; (exact lD); (intro _; dsimp only [setD, z0, z1]); all_goals (try infer_instance)) | (apply WL.opN; (focus ((first | (refine SY.ixE1 (R := RI) (_gR := inferInstance) elI hil hx (OpD.t rfl) (OpD.t rfl)) | (exact SY.neg (OpD.t rfl) (by omega)) | ((first | apply SY.move | apply SY.assign | apply SY.lss) <;> (exact oD)) | ((first | apply SY.add) <;> first | exact oD | omega) | fail); all_goals infer_instance)); dsimp only [setD, z0, z1]) | (apply WC.condD; (exact oD); all_goals (intro h; try exact xD)) | refine WC.skip ?_ | refine WC.block ?_ | refine ThenD.n ?_)); all_goals (first | ((repeat clear hK); (repeat clear Kx))))
      all_goals try (exfalso; first | contradiction | omega)
      rw [← et]
      (refine ⟨(i + 1, _), ?_, by first | omega | (simp only; omega), rfl, ?_⟩; rotate_left; ((try dsimp only [upds, z0, z1]); repeat (first | exact LeF.nil | refine LeF.co (k := ?_))); (try dsimp only))
      omega
    · have hlti : ¬ (i : Int) < (c.length : Int) := by omega
      obtain rfl : i = c.length := by omega
      rw [List.take_length]
      (repeat' (first |  (refine WC.only 7 (Halt.go ?_)) | refine WL.nil ?_ | refine WC.seqK fun Kx hK => ?_ | (refine hK _ _ ?_; clear hK) | (refine Kont.skip ?_; clear hK) | refine WC.region ?_ | (apply WL.opN; (focus ((first | ((first | apply SY.move | apply SY.assign | apply SY.lss) <;> (exact oD)) | fail); all_goals infer_instance)); dsimp only [setD, z0, z1]) | (apply WC.condD; (exact oD); all_goals (intro h; try exact xD)) | refine WC.exit ?_))
      all_goals try (exfalso; first | contradiction | omega)
      refine ⟨WC.keep1 (s := 3) rfl ?_⟩
      dsimp only [z0, z1]
      ((repeat' (first | (apply WL.opN; exact yF; dsimp only [setD, z0, z1]) | refine WL.nil ?_ | (refine hK _ _ ?_; clear hK) | refine WC.region ?_ | refine WC.ret ?_)); all_goals (first | ((repeat clear hK); (repeat clear Kx))))
      all_goals try (exfalso; first | contradiction | omega)
      (refine ⟨trivial, _, rfl, ?_⟩; exact fD)
end Go.Proofs.Ytpiidgcljlalmaa
namespace Go.Proofs.Ytpiidgcljlalmaa
open Go.RowKit
section
variable {P : Program} {ops : Array Oper} {md : Region.Mode} {fr fr' : List Dat} {hp : List HObj} {C : List HObj → Prop}
theorem SW.ofSY {o : Oper} {d : Dat} (hg : o.guard = none) (h : SY P ops hp o fr d) : SW P ops hp (fun _ : Unit => hp) (fun _ => d) o fr :=
  ⟨hg, fun {_ _ _ _ _} hh ho K Q hk => h.out hh ho K Q fun v w' e hd => hk () v w' (hh.ext e) (fun d _ hu => d.ext hu e) hd⟩
structure WT (P : Program) (l : List Oper) (C : List HObj → Prop) (n : Nat) (Sf : List Bool) (R : List Dat → List HObj → Prop) (f : Nat) (S : List Bool) (fr : List Dat) (hp : List HObj) : Prop where
  out : wpAnyM P .any l.toArray C n (fun listed' f p => (∀ k ∈ Region.ready .any l.toArray listed', n ≤ k) ∧ listed' = Sf.toArray ∧ R f p) f S.toArray fr hp
variable {l : List Oper} {n f : Nat} {S Sf : List Bool} {R : List Dat → List HObj → Prop}
theorem WT.done (hB : ((Region.ready .any l.toArray S.toArray).all (fun k => decide (n ≤ k)) && decide (S = Sf)) = true) (h : R fr hp) : WT P l C n Sf R 0 S fr hp := by
  simp only [Bool.and_eq_true, List.all_eq_true, decide_eq_true_eq] at hB
  obtain ⟨h1, rfl⟩ := hB
  exact ⟨h1, rfl, h⟩
theorem WT.one {i : Nat} {o : Oper} {β : Type} {H : β → List HObj} {D : β → Dat} (hB : (decide (Region.ready .any l.toArray S.toArray = [i]) && decide (i < n)) = true) (ho : l[i]? = some o) (h : SW P l.toArray hp H D o fr) (hC : ∀ x, C (H x)) (k : ∀ x, WT P l C n Sf R f (S.set i true) (setD fr o.dst (D x)) (H x)) : WT P l C n Sf R (f + 1) S fr hp := by
  simp only [Bool.and_eq_true, decide_eq_true_eq] at hB
  obtain ⟨h1, h2⟩ := hB
  refine ⟨fun h0 => (by rw [h1] at h0; cases h0), fun j hj => ?_⟩
  rw [h1] at hj
  cases List.mem_singleton.1 hj
  exact ⟨h2, o, by simpa using ho, .inr ⟨β, H, D, h, hC, fun x => by have := (k x).out; rwa [← List.setIfInBounds_toArray] at this⟩⟩
theorem WT.two {i j : Nat} {o o2 : Oper} {β γ : Type} {H : β → List HObj} {D : β → Dat} {H2 : γ → List HObj} {D2 : γ → Dat} (hB : (decide (Region.ready .any l.toArray S.toArray = [i, j]) && decide (i < n) && decide (j < n)) = true)
    (ho : l[i]? = some o) (h : SW P l.toArray hp H D o fr) (hC : ∀ x, C (H x)) (ho2 : l[j]? = some o2) (h2 : SW P l.toArray hp H2 D2 o2 fr) (hC2 : ∀ x, C (H2 x))
    (k : ∀ x, WT P l C n Sf R f (S.set i true) (setD fr o.dst (D x)) (H x)) (k2 : ∀ x, WT P l C n Sf R f (S.set j true) (setD fr o2.dst (D2 x)) (H2 x)) : WT P l C n Sf R (f + 1) S fr hp := by
  simp only [Bool.and_eq_true, decide_eq_true_eq] at hB
  obtain ⟨⟨h1, hi⟩, hj⟩ := hB
  refine ⟨fun h0 => (by rw [h1] at h0; cases h0), fun m hm => ?_⟩
  rw [h1] at hm
  rcases List.mem_cons.1 hm with rfl | hm
  · exact ⟨hi, o, by simpa using ho, .inr ⟨β, H, D, h, hC, fun x => by have := (k x).out; rwa [← List.setIfInBounds_toArray] at this⟩⟩
  · cases List.mem_singleton.1 hm
    exact ⟨hj, o2, by simpa using ho2, .inr ⟨γ, H2, D2, h2, hC2, fun x => by have := (k2 x).out; rwa [← List.setIfInBounds_toArray] at this⟩⟩
set_option maxRecDepth 100000 in
theorem SW.mkO {x y : Operand} {n : Int} {v : Value} {e : TypeId} {α : Type} {R : Rel α} {_gR : Good R} {xs : List α} {dst : Option Tmp} {ty : TypeId} {ps : String} {af : Array Edge} (hm : hRow v e R xs ∈ hp) (hx : OpD fr x (dI n)) (hy : OpD fr y (dX v)) : SW Try.prog ops hp (fun _ : Unit => hp) (fun _ => dAgg [dI n, dX v]) { dst := dst, op := .build 24 #[(0, x), (1, y)], type := ty, pos := ps, after := af, guard := none } fr :=
  ⟨rfl, fun {_ _ _ _ _} hh ho K Q hk => (SW.ofSY rfl (SY.mkA (by
    intro I w u hu
    cases (hu : _ = _)
    rcases own_form (hh.ok _ hm) with ⟨q, _⟩ | ⟨b, cap, q, _⟩ <;> exact ⟨_, _, _, q⟩) hx hy)).out hh ho K Q hk⟩
theorem WC.drawT {id : Nat} {l : List Oper} {Q : Post} (C : List HObj → Prop) (n m f0 : Nat) (rds : List Nat) (S Sf : List Bool) (hm : P.follows .mixedOrders = true)
    (hB : (decide (n < l.toArray.size) && Region.sinkB .any l.toArray n && chainB2 .any l.toArray n && rdB .any l.toArray n rds (Array.replicate l.toArray.size false)) = true) (hS : rds.foldl (fun s i => s.setIfInBounds i true) (Array.replicate l.toArray.size false) = S.toArray) (hlen : l.length = rds.length + f0 + m) (hC : C hp)
    (h : WRd P l.toArray C (fun f => WT P l C n Sf (fun f p => WA P l.toArray Q m Sf f p) f0 S f hp) rds fr) : WC P Q (.region id l.toArray true) fr hp := by
  refine WC.of fun P0 B w0 w a hh hf => ?_
  simp only [Bool.and_eq_true, decide_eq_true_eq] at hB
  obtain ⟨⟨⟨hn, hs⟩, hc⟩, hord⟩ := hB
  have inv0 : HeadInv .any l.toArray n (Array.replicate l.toArray.size false) :=
    ⟨by simp, fun j oj _ hl => (by rw [getD_replicate_false] at hl; cases hl), fun t _ ht => getD_in (by simpa using ht) (getD_replicate_false _ _)⟩
  have HW := wpAnyM_rd (f0 := f0) (hp := hp) (L := fun listed' f p => (∀ k ∈ Region.ready .any l.toArray listed', n ≤ k) ∧ listed' = Sf.toArray ∧ WA P l.toArray Q m Sf f p) hs hc hn (fun _ _ _ hL => hL.1) rds _ fr inv0 hord h fun fr' hq _ => by
    rw [hS]; exact hq.out
  have hx : Ext w { w with drawn := w.drawn + 1 } := (Ext.refl w).drew
  refine wp_region_any hm ?_
  have := wpAny_of_headM (Q' := lift Q P0 B w0) (g := m) _ _ _ hp _ _ hC (hh.ext hx) (hf.ext hx) (fun listed' fr' hp' a' w' hh' hf' hL => by
    rw [hL.2.1]
    exact hL.2.2.out _ _ _ _ _ hh' hf') HW
  rw [show l.toArray.size = f0 + rds.length + m by simp; omega]
  rw [show (l.toArray.size) = f0 + rds.length + m by simp; omega] at this
  exact this
end
end Go.Proofs.Ytpiidgcljlalmaa
