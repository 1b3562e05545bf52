/-
  Part 39 of the texts that the claims of this seat lean on: walks of the program's functions by contracts over symbolic frames, and plain laws of what they compute. No condition.
-/
import Derived.Test.YtkedmlandjlogaaV12
import Derived.Test.YtkedmlandjlogaaV37
import Derived.Test.YtkedmlandjlogaaV38
set_option linter.unusedVariables false
set_option linter.unusedSimpArgs false
set_option linter.unusedSectionVars false
namespace Go.Proofs.Ytkedmlandjlogaa
open Go.RowKit
set_option linter.unusedSimpArgs false

set_option maxHeartbeats 2000000
set_option maxRecDepth 100000
abbrev Cpxs : Rel (List Cx) := ArrK 1 Cpx
theorem elC : ElT Try.prog 93 24 1 (.agg #[.slice none 0 0]) 24 true := ⟨Try.underlying93, by kernel_rfl, Try.isAgg24, rfl⟩
def goodB (l : Cx) : Bool := fewAllV l && (decide (chkC l = 0) && decide (dimC l ≤ 4))
theorem allG_snoc {α : Type} {l : List α} {p : α → Bool} {k : Nat} (h : k < l.length) : (l.take (k + 1)).all p = ((l.take k).all p && p l[k]) := by rw [take_snoc' h, List.all_append]; simp
theorem all_not {α : Type} {l : List α} {p : α → Bool} {k : Nat} (h : k < l.length) (hp : p l[k] = false) : l.all p = false := by
  rw [List.all_eq_false]
  exact ⟨l[k], List.getElem_mem h, by rw [hp]; exact Bool.false_ne_true⟩
theorem gd_of {l : Cx} (h : goodB l = true) : Gd l := by
  unfold goodB at h
  rw [Bool.and_eq_true, Bool.and_eq_true] at h
  obtain ⟨h1, h2, h3⟩ := h
  have h3 := of_decide_eq_true h3
  refine ⟨goodX_iff.1 (of_decide_eq_true h2), few_len h1, fun s hs => ?_⟩
  have := (most_max l).1 s hs
  have := most_dim l
  omega
set_option maxHeartbeats 4000000 in
theorem good27_p (ls : List Cx) : Fn Try.prog 27 [dS Cpxs ls] (dB (ls.all goodB)) := by
  (refine Fn.intro1 Try.func27 rfl rfl ?_; simp only [Try.ntmps27, List.length_cons, List.length_nil, Nat.reduceAdd, Nat.reduceSub, List.replicate_succ, List.replicate_zero, List.cons_append, List.nil_append])
  (first | refine WC.know (t := 0) rfl le_K fun hl0 => ?_ | refine WC.know (t := 0) rfl le_A fun hl0 => ?_ | refine WC.know (t := 0) rfl le_C fun hl0 => ?_); simp only [maxLen] at hl0
  ((repeat' (first | (apply WL.opG; (focus (apply SYG.yes; (exact want_none rfl); (first | (apply SY.move <;> (exact oD)) | (apply SY.assign <;> (exact oD)) | (apply SY.load; (exact tD); (exact OpD.t rfl))))); dsimp only [setD, z0, z1]) | refine WL.nil ?_ | refine WC.seqK fun Kx hK => ?_ | (refine hK _ _ ?_; clear hK) | (refine Kont.skip ?_; clear hK) | refine WC.region ?_ | (apply WL.alloc; (first | exact tzV | exact tzC); (first | exact shape_X rfl | exact shape_XV | exact shape_C0 rfl); (intro _; dsimp only [setD, z0, z1])) | (apply WL.storeF; (exact tD); rfl; (exact oD); (exact hD); dsimp only [setD, z0, z1]) | (apply WL.storeF2; (exact tD); rfl; (exact oD); (exact hD); dsimp only [setD, z0, z1]) | (apply WL.storeF3; (exact tD); rfl; (exact oD); (exact hD); dsimp only [setD, z0, z1]) | (apply WL.opG; (focus (first | (apply SYG.no; first | exact want_notT rfl rfl rfl (by with_reducible rfl) | exact want_notF rfl rfl rfl (by with_reducible rfl)) | (apply SYG.yes; (first | exact want_none rfl | exact want_yes rfl rfl rfl (by with_reducible rfl)); ((first | ((first | apply SY.move | apply SY.assign | apply SY.lss | apply SY.gtr | apply SY.neq | apply SY.not) <;> (exact oD)) | ((first | apply SY.add) <;> first | exact oD | omega) | (apply SY.load; (exact tD); (exact oD)) | (apply SY.loadH; (exact tD); (exact oD); (exact (by simp))) | (apply SY.len; (exact oD); (first | exact len_K | exact len_A | exact len_nil); (first | exact uD | exact elC.unt)) | (apply SY.lenRK; exact OpD.t rfl; (first | exact .head _ | exact .tail _ (.head _)); (first | exact uD | exact elC.unt)) | (apply SY.lenR; exact OpD.t rfl; (first | exact .head _ | exact .tail _ (.head _)); (first | exact uD | exact elC.unt)) | (apply SY.ixK; (first | exact eD | exact elC); (exact oD); (exact oD); (first | assumption | omega)) | (apply SY.ix; (first | exact eD | exact elC); (exact oD); (exact oD); (first | assumption | omega)) | (first | (apply SY.neqV vxT <;> (exact oD))) | (apply SY.neqB; (exact oD); (exact oD); exact nqBB) | (apply SY.pickT; (exact oD); (with_reducible rfl); (exact oD)) | (apply SY.pickF; (exact oD); (with_reducible rfl); (exact oD)) | (apply SY.extract; (exact oD); rfl) | fail); all_goals infer_instance)))); dsimp only [setD, z0, z1]) | ((first | refine WL.caseP rfl rfl rfl (fun h => ?_) (fun h => ?_) | refine WL.caseN rfl rfl rfl (fun h => ?_) (fun h => ?_) | refine WL.caseB rfl rfl rfl (fun h => ?_) (fun h => ?_)) <;> (first | (exfalso; first | omega | contradiction) | (dsimp only [z0, z1]))) | (apply WC.condT; (exact oD); (with_reducible rfl)) | (apply WC.condF; (exact oD); (with_reducible rfl)) | (apply WC.condD; (exact oD); (all_goals intro h); (all_goals try (exfalso; first | omega | contradiction))) | (apply WC.condN; (exact oD); (all_goals intro h); (all_goals try (exfalso; first | omega | contradiction))) | (apply WC.condNB; (exact oD); (all_goals intro h); (all_goals try (exfalso; first | omega | contradiction))) | (apply WC.cond; (exact oD); (all_goals intro h); (all_goals try (exfalso; first | omega | contradiction))) | refine WC.skip ?_ | refine WC.ret ?_ | refine WC.exit ?_ | refine WC.block ?_ | refine ThenD.n ?_ | refine ThenD.r ?_ | refine ThenD.x ?_ | refine InBlockD.x ?_ | refine InBlockD.n ?_ | refine InBlockD.r ?_ | refine InBlockD.y (by decide) ?_)); all_goals (first | refine WC.id ?_ | refine WL.id ?_ | refine WDs.id ?_ | ((repeat clear hK); (repeat clear Kx))))
  (refine WC.loopU (X := Nat) (fun k => [(9, dI (k : Int)), (2, dA), (4, dA), (5, dA), (6, dA), (10, dA), (11, dA), (12, dA), (13, dA), (14, dA), (15, dA), (16, dA), (17, dA), (18, dA), (19, dA), (20, dA), (21, dA), (22, dA), (23, dA), (24, dA), (25, dA), (26, dA), (27, dA), (28, dA), (29, dA), (30, dA)]) (fun k => []) (fun k => ls.length - k) (fun k => k ≤ ls.length ∧ (ls.take k).all goodB = true) 0 ?start ?frame0 ?objs0 ?round)
  case start => exact ⟨Nat.zero_le _, rfl⟩
  case frame0 => ((try dsimp only [upds, z0, z1]); repeat (first | exact LeF.nil | refine LeF.cons (by first | with_reducible exact Dat.le_any _ | with_reducible exact Dat.le_refl _ | exact le_ii (by omega) | exact Dat.le_nil | exact Dat.le_nilK (by decide) | assumption | exact Dat.le_refl _ | exact le_eq (by simp)) ?_))
  case objs0 => rfl
  case round =>
    rintro k ⟨h1, h2⟩
    dsimp only [upds, z0, z1]
    ((repeat' (first | (apply WL.opG; (focus (apply SYG.yes; (exact want_none rfl); (first | (apply SY.move <;> (exact oD)) | (apply SY.assign <;> (exact oD)) | (apply SY.load; (exact tD); (exact OpD.t rfl))))); dsimp only [setD, z0, z1]) | refine WL.nil ?_ | refine WC.seqK fun Kx hK => ?_ | (refine hK _ _ ?_; clear hK) | (refine Kont.skip ?_; clear hK) | refine WC.region ?_ | (apply WL.alloc; (first | exact tzV | exact tzC); (first | exact shape_X rfl | exact shape_XV | exact shape_C0 rfl); (intro _; dsimp only [setD, z0, z1])) | (apply WL.storeF; (exact tD); rfl; (exact oD); (exact hD); dsimp only [setD, z0, z1]) | (apply WL.storeF2; (exact tD); rfl; (exact oD); (exact hD); dsimp only [setD, z0, z1]) | (apply WL.storeF3; (exact tD); rfl; (exact oD); (exact hD); dsimp only [setD, z0, z1]) | (apply WL.opG; (focus (first | (apply SYG.no; first | exact want_notT rfl rfl rfl (by with_reducible rfl) | exact want_notF rfl rfl rfl (by with_reducible rfl)) | (apply SYG.yes; (first | exact want_none rfl | exact want_yes rfl rfl rfl (by with_reducible rfl)); ((first | (apply SY.call (size_c _) Try.call59; (exact aD)) | (apply SY.call (fewC_c _) Try.call8; (exact aD)) | (apply SY.call (chk27_c _) Try.call52; (exact aD)) | ((first | apply SY.move | apply SY.assign | apply SY.lss | apply SY.gtr | apply SY.neq | apply SY.not) <;> (exact oD)) | ((first | apply SY.add) <;> first | exact oD | omega) | (apply SY.load; (exact tD); (exact oD)) | (apply SY.loadH; (exact tD); (exact oD); (exact (by simp))) | (apply SY.len; (exact oD); (first | exact len_K | exact len_A | exact len_nil); (first | exact uD | exact elC.unt)) | (apply SY.lenRK; exact OpD.t rfl; (first | exact .head _ | exact .tail _ (.head _)); (first | exact uD | exact elC.unt)) | (apply SY.lenR; exact OpD.t rfl; (first | exact .head _ | exact .tail _ (.head _)); (first | exact uD | exact elC.unt)) | (apply SY.ixK; (first | exact eD | exact elC); (exact oD); (exact oD); (first | assumption | omega)) | (apply SY.ix; (first | exact eD | exact elC); (exact oD); (exact oD); (first | assumption | omega)) | (first | (apply SY.neqV vxT <;> (exact oD))) | (apply SY.neqB; (exact oD); (exact oD); exact nqBB) | (apply SY.pickT; (exact oD); (with_reducible rfl); (exact oD)) | (apply SY.pickF; (exact oD); (with_reducible rfl); (exact oD)) | (apply SY.extract; (exact oD); rfl) | fail); all_goals infer_instance)))); dsimp only [setD, z0, z1]) | ((first | refine WL.caseP rfl rfl rfl (fun h => ?_) (fun h => ?_) | refine WL.caseN rfl rfl rfl (fun h => ?_) (fun h => ?_) | refine WL.caseB rfl rfl rfl (fun h => ?_) (fun h => ?_)) <;> (first | (exfalso; first | omega | contradiction) | (dsimp only [z0, z1]))) | (apply WC.condT; (exact oD); (with_reducible rfl)) | (apply WC.condF; (exact oD); (with_reducible rfl)) | (apply WC.condD; (exact oD); (all_goals intro h); (all_goals try (exfalso; first | omega | contradiction))) | (apply WC.condN; (exact oD); (all_goals intro h); (all_goals try (exfalso; first | omega | contradiction))) | (apply WC.condNB; (exact oD); (all_goals intro h); (all_goals try (exfalso; first | omega | contradiction))) | (apply WC.cond; (exact oD); (all_goals intro h); (all_goals try (exfalso; first | omega | contradiction))) | refine WC.skip ?_ | refine WC.ret ?_ | refine WC.exit ?_ | refine WC.block ?_ | refine ThenD.n ?_ | refine ThenD.r ?_ | refine ThenD.x ?_ | refine InBlockD.x ?_ | refine InBlockD.n ?_ | refine InBlockD.r ?_ | refine InBlockD.y (by decide) ?_)); all_goals (first | refine WC.id ?_ | refine WL.id ?_ | refine WDs.id ?_ | ((repeat clear hK); (repeat clear Kx))))
    · have hk : k < ls.length := by omega
      have hg : goodB ls[k] = false := by unfold goodB; simp_all
      rw [all_not hk hg]; (refine ⟨trivial, _, rfl, ?_⟩; (first | exact fD | refine FinD.i ?_ | refine FinD.b ?_ | refine FinD.rowKE (.head _) ?_ | refine FinD.rowE (.head _) ?_ | refine FinD.nilKE (by decide) ?_ | refine FinD.nilE ?_ | refine FinD.s ?_))
    · have hk : k < ls.length := by omega
      have hg : goodB ls[k] = false := by unfold goodB; simp_all
      rw [all_not hk hg]; (refine ⟨trivial, _, rfl, ?_⟩; (first | exact fD | refine FinD.i ?_ | refine FinD.b ?_ | refine FinD.rowKE (.head _) ?_ | refine FinD.rowE (.head _) ?_ | refine FinD.nilKE (by decide) ?_ | refine FinD.nilE ?_ | refine FinD.s ?_))
    · have hk : k < ls.length := by omega
      have hg : goodB ls[k] = false := by
        unfold goodB
        rw [decide_eq_false (show ¬ dimC ls[k] ≤ 4 by omega), Bool.and_false, Bool.and_false]
      rw [all_not hk hg]; (refine ⟨trivial, _, rfl, ?_⟩; (first | exact fD | refine FinD.i ?_ | refine FinD.b ?_ | refine FinD.rowKE (.head _) ?_ | refine FinD.rowE (.head _) ?_ | refine FinD.nilKE (by decide) ?_ | refine FinD.nilE ?_ | refine FinD.s ?_))
    · have hk : k < ls.length := by omega
      rename_i hq1 hq2 hq3
      have hg : goodB ls[k] = true := by
        unfold goodB
        rw [decide_eq_true (show dimC ls[k] ≤ 4 by omega), Bool.and_true]
        simp_all
      (refine ⟨k + 1, ?_, by first | omega | (simp only; omega), rfl, ?_⟩; rotate_left; ((try dsimp only [upds, z0, z1]); repeat (first | exact LeF.nil | refine LeF.cons (by first | with_reducible exact Dat.le_any _ | with_reducible exact Dat.le_refl _ | exact le_ii (by omega) | exact Dat.le_nil | exact Dat.le_nilK (by decide) | assumption | exact Dat.le_refl _ | exact le_eq (by simp)) ?_)); (try dsimp only))
      exact ⟨by omega, by rw [allG_snoc hk, h2, hg]; rfl⟩
    · rw [List.take_of_length_le (by omega)] at h2
      rw [h2]; (refine ⟨trivial, _, rfl, ?_⟩; (first | exact fD | refine FinD.i ?_ | refine FinD.b ?_ | refine FinD.rowKE (.head _) ?_ | refine FinD.rowE (.head _) ?_ | refine FinD.nilKE (by decide) ?_ | refine FinD.nilE ?_ | refine FinD.s ?_))
end Go.Proofs.Ytkedmlandjlogaa
namespace Go.Proofs.Ytkedmlandjlogaa
open Go.RowKit
section
variable {P : Program} {ops : Array Oper} {hp : List HObj} {fr : List Dat} {dst : Option Tmp} {ty : TypeId} {ps : String} {af : Array Edge} {t e : TypeId} {z : Value} {bytes : Nat} {ag : Bool}
theorem SW.app1 {s y : Operand} (E : ElT P t e 1 z bytes ag) {α : Type} {R : Rel α} {_gR : Good R} {v : Value} {xs ys : List α} (hs : OpD fr s (dX v)) (hy : OpD fr y (dS (Arr R) ys)) (hby : 0 < bytes)
    (hlen : (xs.length + ys.length) * bytes ≤ 140737488355328) :
    SW P ops (hRow v e R xs :: hp) (fun v' : Value => hRow v' e R (xs ++ ys) :: hp) (fun v' => dX v') { dst := dst, op := .call { callee := .builtin .append, args := #[s, y], argTypes := #[t, t] }, type := ty, pos := ps, after := af, guard := none } fr := ⟨rfl, fun {P0 B w0 w a} hh ho K Q hk => by
  obtain ⟨ad, cap, hv, c1, c2, c3⟩ := (hy.get (by simp [Op.operands, Call.operands]) ho : Arr R _ _ _ _)
  have hm : xs.length + ys.length ≤ maxLen := by
    have : (xs.length + ys.length) * 1 ≤ (xs.length + ys.length) * bytes := Nat.mul_le_mul_left _ hby
    simp only [maxLen]; omega
  have hse : a.eval s = v := hs.get (by simp [Op.operands, Call.operands]) ho
  cases ad with
  | none =>
    have hy0 : ys = [] := by
      cases ys with
      | nil => rfl
      | cons y ys => obtain ⟨_, _, _, _, _, hc, _⟩ := c3 0 (by simp); cases hc
    subst hy0
    obtain ⟨us, _, hown, _⟩ := hh.ok (hRow v e R xs) (by simp)
    have hrun : (execOp a.eval { dst := dst, op := .call { callee := .builtin .append, args := #[s, y], argTypes := #[t, t] }, type := ty, pos := ps, after := af, guard := none }).run P w = .ok (.value v) w := by
      have hr := run_append_none (P := P) (ty := ty) (w := w) E hown cap
      have hv' : a.eval y = .slice none 0 cap := hv
      unfold execOp
      simp only [resolve, invoke, builtin, List.map_toArray, List.map_cons, List.map_nil, hse, hv', Sem.run_bind, Sem.run_pure, Result.andThen_ok]
      rw [hr]
      simp
    unfold Oper.wp
    rw [hrun]
    have := hk v v w
    simp only [List.append_nil] at this
    exact this hh (fun _ _ h => h) rfl
  | some ad =>
    have hch : ∀ k : Nat, ∃ u : Value, ∀ h : k < ys.length, w.cell? (ad.add k) = some u ∧ u.oneCell' = true ∧ R (Imm P0 B (hRow v e R xs :: hp)) w u ys[k] := fun k => by
      by_cases hk : k < ys.length
      · obtain ⟨u, b, off, r1, r2, r3, r4, r5⟩ := c3 k hk
        cases r3
        exact ⟨u, fun _ => ⟨by rw [Addr.add_lit]; exact r5, r2, r1⟩⟩
      · exact ⟨undef, fun h => absurd h hk⟩
    obtain ⟨f, hfch⟩ := Classical.axiomOfChoice hch
    obtain ⟨v', w', hr, r1, r2, r3⟩ := app1_step (ty := ty) E hh (ad := ad) (c := cap) (ys := ys) (news := (List.range ys.length).map f) (by simp) (fun j u hu => by
        obtain ⟨hjl, hju⟩ := List.getElem?_eq_some_iff.1 hu
        simp at hjl hju
        subst hju
        exact (hfch j hjl).1) (fun u hu => by
        simp only [List.mem_map, List.mem_range] at hu
        obtain ⟨j, hj, rfl⟩ := hu
        exact (hfch j hj).2.1) (fun k h1 h2 => by
        simp only [List.getElem_map, List.getElem_range]
        exact (hfch k h2).2.2) hlen hm
    have hrun : (execOp a.eval { dst := dst, op := .call { callee := .builtin .append, args := #[s, y], argTypes := #[t, t] }, type := ty, pos := ps, after := af, guard := none }).run P w = .ok (.value v') w' := by
      unfold execOp
      simp only [resolve, invoke, builtin, List.map_toArray, List.map_cons, List.map_nil, hse, hv, Sem.run_bind, Sem.run_pure, Result.andThen_ok, hr]
    unfold Oper.wp
    rw [hrun]
    exact hk v' v' w' r1 (fun d u hd => Hp.written (o := hRow v e R xs) (o' := hRow v' e R (xs ++ ys)) r2 r3 hd) rfl⟩
end
section
variable {P : Program} {ops : Array Oper} {hp : List HObj} {fr : List Dat} {d : Dat}
variable {dst : Option Tmp} {ty : TypeId} {ps : String} {af : Array Edge} {g : Option (Nat × Bool)} {t k e : TypeId} {z : Value} {K V : Type} [DecidableEq K] {kv : K → Value} {ok : K → Prop} {vv : V → Value} {m : List (K × V)} {b : Nat}
theorem SY.lookXs {x y : Operand} {v : K} {u : V} (T : MapT P t k e z) (H : KeyT P k kv ok) (hx : OpD fr x (dX (.map (some b)))) (hm : hM b kv vv m ∈ hp) (hy : OpD fr y d) (hd : IsV d (kv v)) (ho : ok v) (hok : ∀ p ∈ m, ok p.1) (hn : (m.map (·.1)).Nodup) (hl : Go.Proofs.Ytkedmlandjlogaa.lookM m v = some u) :
    SY P ops hp { dst := dst, op := .lookup t x y false, type := ty, pos := ps, after := af, guard := g } fr (dX (vv u)) := by
  have := SY.lookM (ops := ops) (dst := dst) (ty := ty) (ps := ps) (af := af) (g := g) T H hx hm hy hd ho hok hn
  rwa [hl] at this
theorem SY.lookXn {x y : Operand} {v : K} (T : MapT P t k e z) (H : KeyT P k kv ok) (hx : OpD fr x (dX (.map (some b)))) (hm : hM b kv vv m ∈ hp) (hy : OpD fr y d) (hd : IsV d (kv v)) (ho : ok v) (hok : ∀ p ∈ m, ok p.1) (hn : (m.map (·.1)).Nodup) (hl : Go.Proofs.Ytkedmlandjlogaa.lookM m v = none) :
    SY P ops hp { dst := dst, op := .lookup t x y false, type := ty, pos := ps, after := af, guard := g } fr (dX z) := by
  have := SY.lookM (ops := ops) (dst := dst) (ty := ty) (ps := ps) (af := af) (g := g) T H hx hm hy hd ho hok hn
  rwa [hl] at this
end
end Go.Proofs.Ytkedmlandjlogaa
namespace Go.Proofs.Ytkedmlandjlogaa
def shareB (s t : List Vx) : Bool := decide (0 < (sharedV s t true).length)
theorem share_iff {s t : List Vx} : shareB s t = true ↔ ∃ v, v ∈ s ∧ v ∈ t := by
  unfold shareB sharedV
  rw [decide_eq_true_iff, List.length_pos_iff_exists_mem]
  constructor
  · rintro ⟨v, hv⟩
    have := List.mem_filter.1 hv
    exact ⟨v, this.1, by simpa using this.2⟩
  · rintro ⟨v, h1, h2⟩
    exact ⟨v, List.mem_filter.2 ⟨h1, by simpa using h2⟩⟩
def outN (l : Cx) (i : Nat) : List Int := l.map fun s => if rootC l s ∈ distG ((rootsC l).take i) then (numC l s : Int) else -1
def nextN (l : Cx) (i : Nat) : Nat := (distG ((rootsC l).take i)).length
theorem outN_len (l : Cx) (i : Nat) : (outN l i).length = l.length := by simp [outN]
theorem outN_at {l : Cx} {i t : Nat} (h : t < l.length) (h' : t < (outN l i).length) : (outN l i)[t] = if rootC l l[t] ∈ distG ((rootsC l).take i) then (numC l l[t] : Int) else -1 := by simp [outN]
theorem roots_at {l : Cx} {i : Nat} (h : i < l.length) : (rootsC l)[i]'(by simpa [rootsC] using h) = rootC l l[i] := by simp [rootsC]
theorem dist_next {l : Cx} {i : Nat} (h : i < l.length) : distG ((rootsC l).take (i + 1)) = if rootC l l[i] ∈ distG ((rootsC l).take i) then distG ((rootsC l).take i) else distG ((rootsC l).take i) ++ [rootC l l[i]] := by
  have := dist_snoc (rs := rootsC l) (k := i) (by simpa [rootsC] using h)
  rw [roots_at h] at this
  by_cases hm : rootC l l[i] ∈ distG ((rootsC l).take i)
  · rw [if_pos hm] at this ⊢; exact this
  · rw [if_neg hm] at this ⊢; exact this
theorem num_of_mem {l : Cx} {i : Nat} {s : List Vx} (h : rootC l s ∈ distG ((rootsC l).take i)) : numC l s < nextN l i := by
  obtain ⟨t, ht⟩ := dist_pre ((rootsC l).take i) ((rootsC l).drop i)
  rw [List.take_append_drop] at ht
  unfold numC nextN
  rw [ht, idx_app_mem h]
  exact idx_lt h
structure Mid (l : Cx) (i : Nat) (o : List Int) : Prop where
  len : o.length = l.length
  each : ∀ (t : Nat) (h : t < l.length) (h' : t < o.length), o[t] = (outN l i)[t]'(by rw [outN_len]; exact h) ∨ (o[t] = (nextN l i : Int) ∧ ∃ hi : i < l.length, rootC l l[t] = rootC l l[i])
  own : ∀ (h' : i < o.length), o[i] = (nextN l i : Int)
theorem outN_lt {l : Cx} {i t : Nat} (h : t < l.length) (h' : t < (outN l i).length) : (outN l i)[t] < (nextN l i : Int) ∧ -1 ≤ (outN l i)[t] := by
  rw [outN_at h]
  by_cases h1 : rootC l l[t] ∈ distG ((rootsC l).take i)
  · rw [if_pos h1]
    have := num_of_mem h1
    omega
  · rw [if_neg h1]; omega
theorem Mid.start {l : Cx} {i : Nat} (h : i < l.length) : Mid l i ((outN l i).set i (nextN l i : Int)) :=
  ⟨by rw [List.length_set, outN_len], fun t h1 h2 => by
    rw [List.getElem_set]
    by_cases hit : i = t
    · subst hit; rw [if_pos rfl]; exact .inr ⟨rfl, h, rfl⟩
    · rw [if_neg hit]; exact .inl rfl, fun h' => by rw [List.getElem_set, if_pos rfl]⟩
theorem Mid.root {l : Cx} {i : Nat} {o : List Int} (M : Mid l i o) {t : Nat} (h : t < l.length) (h' : t < o.length) (hi : i < l.length) (ho : o[t] = (nextN l i : Int)) : rootC l l[t] = rootC l l[i] := by
  rcases M.each t h h' with h1 | ⟨_, _, h2⟩
  · have := (outN_lt (i := i) h (by rw [outN_len]; exact h)).1
    omega
  · exact h2
theorem Mid.set {l : Cx} {i : Nat} {o : List Int} (M : Mid l i o) (hi : i < l.length) {j k : Nat} (hj : j < l.length) (hk : k < l.length) (hk' : k < o.length) (ho : o[k] = (nextN l i : Int)) (hs : shareB l[j] l[k] = true) : Mid l i (o.set j (nextN l i : Int)) :=
  ⟨by rw [List.length_set, M.len], fun t h1 h2 => by
    have h2' : t < o.length := by simpa using h2
    rw [List.getElem_set]
    by_cases hjt : j = t
    · subst hjt
      rw [if_pos rfl]
      obtain ⟨v, v1, v2⟩ := share_iff.1 hs
      refine .inr ⟨rfl, hi, ?_⟩
      rw [root_shared (List.getElem_mem hj) (List.getElem_mem hk) v1 v2]
      exact M.root hk hk' hi ho
    · rw [if_neg hjt]; exact M.each t h1 h2', fun h' => by
    rw [List.getElem_set]
    by_cases hji : j = i
    · rw [if_pos hji]
    · rw [if_neg hji]; exact M.own _⟩
end Go.Proofs.Ytkedmlandjlogaa
namespace Go.Proofs.Ytkedmlandjlogaa
open Go.RowKit
set_option linter.unusedSimpArgs false

set_option maxHeartbeats 2000000
set_option maxRecDepth 100000
theorem mapT_pts : MapT Try.prog 62 3 22 (.slice none 0 0) := ⟨Try.underlying62, fun w => by kernel_rfl⟩
abbrev PtM := List (Int × Value × Cx)
abbrev hP (b : Nat) (M : PtM) : HObj := hM b (fun n : Int => Value.int .i64 n) (fun p : Value × Cx => p.1) M
abbrev rowP (p : Value × Cx) : HObj := hRow p.1 25 Verts p.2
def rowsP (M : PtM) : List HObj := M.map fun p => rowP p.2
def knowsP (M : PtM) : List HObj := M.map fun p => hKnow p.2.1 (dS Simps p.2.2)
def contP (M : PtM) : List (Int × Cx) := M.map fun p => (p.1, p.2.2)
def ptsAt (l : Cx) (i : Nat) : List (Int × Cx) := (List.range (nextN l i)).map fun j : Nat => ((j : Int), (l.take i).filter fun s => decide (numC l s = j))
theorem num_take {l : Cx} {i : Nat} {s : List Vx} (h : s ∈ l.take i) : numC l s < nextN l i := by
  refine num_of_mem (((dist_inv _).2 _).2 ?_)
  unfold rootsC
  rw [← List.map_take]
  exact List.mem_map_of_mem h
theorem contP_len {M : PtM} {l : Cx} {i : Nat} (h : contP M = ptsAt l i) : M.length = nextN l i := by
  have := congrArg List.length h
  simpa [contP, ptsAt] using this
theorem contP_at {M : PtM} {l : Cx} {i : Nat} (h : contP M = ptsAt l i) {j : Nat} (hj : j < M.length) : M[j].1 = (j : Int) ∧ M[j].2.2 = (l.take i).filter fun s => decide (numC l s = j) := by
  have h1 : (contP M)[j]'(by simpa [contP] using hj) = (ptsAt l i)[j]'(by have := contP_len h; simp [ptsAt]; omega) := by simp only [h]
  simp only [contP, ptsAt, List.getElem_map, List.getElem_range] at h1
  exact ⟨congrArg (·.1) h1, congrArg (·.2) h1⟩
theorem contP_nodup {M : PtM} {l : Cx} {i : Nat} (h : contP M = ptsAt l i) : (M.map (·.1)).Nodup := by
  have : M.map (·.1) = (contP M).map (·.1) := by unfold contP; rw [List.map_map]; rfl
  rw [this, h]
  unfold ptsAt
  rw [List.map_map]
  refine List.Pairwise.map _ (fun a b hab => ?_) (List.nodup_range (n := nextN l i))
  show (a : Int) ≠ (b : Int)
  omega
theorem contP_ok {M : PtM} {l : Cx} {i : Nat} (h : contP M = ptsAt l i) (hl : M.length ≤ 1000) : ∀ p ∈ M, is64 p.1 := fun p hp => by
  obtain ⟨j, hj, rfl⟩ := List.getElem_of_mem hp
  rw [(contP_at h hj).1]
  unfold is64
  omega
theorem contP_old {M : PtM} {l : Cx} {i : Nat} (h : contP M = ptsAt l i) (hi : i < l.length) (hq : numC l l[i] < M.length) (hn : nextN l (i + 1) = nextN l i) (v' : Value) : contP (M.set (numC l l[i]) (M[numC l l[i]].1, (v', M[numC l l[i]].2.2 ++ [l[i]]))) = ptsAt l (i + 1) := by
  have hlen := contP_len h
  apply List.ext_getElem (by simp [contP, ptsAt, hn, hlen])
  intro j j1 j2
  have hj : j < M.length := by simpa [contP] using j1
  obtain ⟨e1, e2⟩ := contP_at h hj
  simp only [contP, ptsAt, List.getElem_map, List.getElem_range, List.getElem_set]
  rw [filt_snoc hi]
  by_cases hjq : numC l l[i] = j
  · subst hjq
    rw [if_pos rfl, if_pos (by simp)]
    simp only [e1, e2]
  · rw [if_neg hjq, if_neg (by simpa using hjq), List.append_nil]
    simp only [e1, e2]
theorem contP_new {M : PtM} {l : Cx} {i : Nat} (h : contP M = ptsAt l i) (hi : i < l.length) (hq : numC l l[i] = M.length) (hn : nextN l (i + 1) = nextN l i + 1) (v' : Value) : contP (M ++ [((numC l l[i] : Int), (v', [l[i]]))]) = ptsAt l (i + 1) := by
  have hlen := contP_len h
  apply List.ext_getElem (by simp [contP, ptsAt, hn, hlen])
  intro j j1 j2
  have hj : j < M.length + 1 := by simpa [contP] using j1
  simp only [contP, ptsAt, List.getElem_map, List.getElem_range]
  rw [filt_snoc hi]
  by_cases hjm : j < M.length
  · obtain ⟨e1, e2⟩ := contP_at h hjm
    rw [List.getElem_append_left hjm, if_neg (by simp; omega), List.append_nil]
    simp only [e1, e2]
  · have hjm : j = M.length := by omega
    subst hjm
    rw [List.getElem_append_right (Nat.le_refl _), if_pos (by simpa using hq)]
    have : (l.take i).filter (fun s => decide (numC l s = M.length)) = [] := by
      rw [List.filter_eq_nil_iff]
      intro s hs
      have := num_take hs
      simp; omega
    simp [this, hq]
theorem rowsP_set (M : PtM) (q : Nat) (h : q < M.length) (p : Int × Value × Cx) : (rowP p.2 :: (rowsP M).eraseIdx q).Perm (rowsP (M.set q p)) := by
  have := perm_set (rowP p.2) (rowsP M) q (by simpa [rowsP] using h)
  have e : rowsP (M.set q p) = (rowsP M).set q (rowP p.2) := by unfold rowsP; rw [List.map_set]
  rw [e]; exact this
theorem rowsP_out (M : PtM) (q : Nat) (h : q < M.length) : (rowsP M).Perm (rowP M[q].2 :: (rowsP M).eraseIdx q) := by
  have := perm_at (rowsP M) q (by simpa [rowsP] using h)
  have e : (rowsP M)[q]'(by simpa [rowsP] using h) = rowP M[q].2 := by simp [rowsP]
  rw [e] at this
  exact this.symm
theorem rowsP_snoc (M : PtM) (p : Int × Value × Cx) : (rowP p.2 :: rowsP M).Perm (rowsP (M ++ [p])) := by
  unfold rowsP
  rw [List.map_append]
  exact (List.perm_append_singleton _ _).symm
theorem spl1_p (n : Int) : Fn Try.prog 37 [dI n] (dB (decide (n ≠ 0))) := by
  (refine Fn.intro1 Try.func37 rfl rfl ?_; simp only [Try.ntmps37, List.length_cons, List.length_nil, Nat.reduceAdd, Nat.reduceSub, List.replicate_succ, List.replicate_zero, List.cons_append, List.nil_append])
  ((repeat' (first | (apply WL.opG; (focus (apply SYG.yes; (exact want_none rfl); (first | (apply SY.move <;> (exact oD)) | (apply SY.assign <;> (exact oD))))); dsimp only [setD, z0, z1]) | refine WL.nil ?_ | refine WC.seqK fun Kx hK => ?_ | (refine hK _ _ ?_; clear hK) | (refine Kont.skip ?_; clear hK) | refine WC.region ?_ | (apply WL.opG; (focus (apply SYG.yes; (exact want_none rfl); ((first | ((first | apply SY.move | apply SY.assign | apply SY.neq) <;> (exact oD)) | (first | (apply SY.neqV vxT <;> (exact oD))) | (apply SY.neqB; (exact oD); (exact oD); exact nqBB) | fail); all_goals infer_instance))); dsimp only [setD, z0, z1]) | refine WC.skip ?_ | refine WC.ret ?_ | refine ThenD.n ?_ | refine ThenD.r ?_)); all_goals (first | refine WC.id ?_ | refine WL.id ?_ | refine WDs.id ?_ | ((repeat clear hK); (repeat clear Kx))))
  all_goals (refine ⟨trivial, _, rfl, ?_⟩; (first | exact fD | refine FinD.i ?_ | refine FinD.b ?_ | refine FinD.rowKE (.head _) ?_ | refine FinD.rowE (.head _) ?_ | refine FinD.nilKE (by decide) ?_ | refine FinD.nilE ?_ | refine FinD.s ?_))
  all_goals simp
theorem meetG {s t : List Vx} (hs : chkV s = 0) (ht : chkV t = 0) : Fn Try.prog 35 [dS Verts s, dS Verts t] (dT [dS Verts (sharedV s t true), dI 0]) := by
  have h := meet_p s t (by have := chk_len hs; omega)
  have e : orI [chkV s, chkV t] = 0 := by rw [hs, ht]; rfl
  have e2 : (s.filter fun x => decide (x ∈ t)) = sharedV s t true := by unfold sharedV; refine List.filter_congr fun x _ => ?_; simp
  rw [e, if_neg (by decide), e2] at h
  exact h
theorem num_meet {l : Cx} {s t : List Vx} (hs : s ∈ l) (ht : t ∈ l) (h : 0 < (sharedV s t true).length) : numC l s = numC l t := by
  obtain ⟨v, hv⟩ := List.exists_mem_of_length_pos h
  unfold sharedV at hv
  obtain ⟨h1, h2⟩ := List.mem_filter.1 hv
  exact num_shared hs ht h1 (by simpa using h2)
theorem comp_at {l : Cx} {i : Nat} (h : i < l.length) (h' : i < (compC l).length) : (compC l)[i] = (numC l l[i] : Int) := by simp [compC]
section
variable {P : Program} {ops : Array Oper} {hp : List HObj} {fr : List Dat} {dst : Option Tmp} {ty : TypeId} {ps : String} {af : Array Edge} {g : Option (Nat × Bool)} {t e : TypeId} {z : Value} {bytes : Nat} {ag : Bool}
theorem SY.upto1 {x y : Operand} (E : ElT P t e 1 z bytes ag) {α : Type} {R : Rel α} {_gR : Good R} {xs : List α} {j : Int} (hx : OpD fr x (dS (Arr R) xs)) (hy : OpD fr y (dI j)) (l : Nat) (hj : j = (l : Int)) (h1 : l ≤ xs.length) :
    SY P ops hp { dst := dst, op := .slice t x none (some y) none, type := ty, pos := ps, after := af, guard := g } fr (dS (Arr R) (xs.take l)) := by
  have := SY.slice1 (P := P) (ops := ops) (hp := hp) (dst := dst) (ty := ty) (ps := ps) (af := af) (g := g) (_gR := _gR) E hx BndD.no (BndD.yesJ hy hj) (Nat.zero_le _) h1
  simpa using this
end
end Go.Proofs.Ytkedmlandjlogaa
