/- Part 2: walks by contracts, and plain laws. -/
import Derived.Test.YtpiidgcljlalmaaVa35
import Derived.Test.YtpiidgcljlalmaaVd1
set_option linter.unusedVariables false
set_option linter.unusedSimpArgs false
set_option linter.unusedSectionVars false
namespace Go.Proofs.Ytpiidgcljlalmaa
open Go.RowKit
set_option linter.unusedSimpArgs false
set_option linter.unusedVariables false
set_option maxHeartbeats 2000000
set_option maxRecDepth 100000
theorem equal43_p (a b : List Int) : Fn Try.prog 35 [dS Ints a, dS Ints b] (dB (decide (a = b))) := by
  (refine Fn.intro1 Try.func35 rfl rfl ?_; simp only [Try.ntmps35, List.length_cons, List.length_nil, Nat.reduceAdd, Nat.reduceSub, List.replicate_succ, List.replicate_zero, List.cons_append, List.nil_append])
  by_cases hl : a.length = b.length
  · have hlI : ¬ (a.length : Int) ≠ (b.length : Int) := by omega
    (repeat' (first | ((first | apply WL.opN | apply WD.opN); exact yF; dsimp only [setD, z0, z1]) | refine WL.nil ?_ | refine WC.seqK fun Kx hK => ?_ | (refine hK _ _ ?_; clear hK) | refine WC.region ?_ | ((first | apply WL.opN | apply WD.opN); (focus ((first | ((first | apply SY.move | apply SY.assign | apply SY.lss | apply SY.neq) <;> (exact oD)) | (apply SY.len; (exact oD); (exact nD); (exact uD)) | fail); all_goals infer_instance)); dsimp only [setD, z0, z1]) | (apply WC.condN; (exact oD); all_goals (intro h; try exact xD)) | refine WC.skip ?_ | refine WC.block ?_))
    all_goals try (exfalso; first | contradiction | omega)
    (first | refine WC.know (t := 0) rfl le_K fun hl0 => ?_ | refine WC.know (t := 0) rfl le_A fun hl0 => ?_); simp only [maxLen] at hl0
    (refine WC.loopU (X := Nat) (fun k => [(13, dI (k : Int)), (4, dA), (5, dA), (14, dA), (15, dA), (16, dA), (17, dA), (18, dA), (19, dA), (20, dA), (21, dA), (22, dA), (23, dA), (24, dA), (25, dA)]) (fun k => []) (fun k => a.length - k) (fun k => k ≤ a.length ∧ ∀ j (hj : j < k) (h1 : j < a.length) (h2 : j < b.length), a[j] = b[j]) 0 ?start ?frame0 ?objs0 ?round)
    case start => exact ⟨Nat.zero_le _, fun j hj => absurd hj (Nat.not_lt_zero j)⟩
    case frame0 => ((try dsimp only [upds, z0, z1]); repeat (first | exact LeF.nil | refine LeF.co (k := ?_)))
    case objs0 => rfl
    case round =>
      rintro k ⟨h1, h2⟩
      dsimp only [upds, z0, z1]
      by_cases hk : k < a.length
      · have hlt : (k : Int) < (a.length : Int) := by omega
        have hkb : k < b.length := by omega
        by_cases he : a[k] = b[k]
        · have heI : ¬ a[k] ≠ b[k] := fun h => h he
          ((repeat' (first | ((first | apply WL.opN | apply WD.opN); exact yF; dsimp only [setD, z0, z1]) | refine WL.nil ?_ | refine WD.nil ?_ | refine WC.seqK fun Kx hK => ?_ | (refine hK _ _ ?_; clear hK) | refine WC.region ?_ | (apply WC.draw; kernel_rfl; kernel_rfl) | ((first | apply WL.opN | apply WD.opN); (focus ((first | (refine SY.ix (R := RI) (_gR := inferInstance) (k := k) elI (OpD.t rfl) (OpD.t rfl) (by omega)) | ((first | apply SY.move | apply SY.assign | apply SY.lss | apply SY.neq) <;> (exact oD)) | ((first | apply SY.add) <;> first | exact oD | omega) | fail); all_goals infer_instance)); dsimp only [setD, z0, z1]) | (apply WC.condD; (exact oD); all_goals (intro h; try exact xD)) | (apply WC.condN; (exact oD); all_goals (intro h; try exact xD)) | refine WC.skip ?_ | refine WC.block ?_ | refine ThenD.n ?_)); all_goals (first | ((repeat clear hK); (repeat clear Kx))))
          all_goals try (exfalso; first | contradiction | omega)
          (refine ⟨k + 1, ?_, by first | omega | (simp only; omega), rfl, ?_⟩; rotate_left; ((try dsimp only [upds, z0, z1]); repeat (first | exact LeF.nil | refine LeF.co (k := ?_))); (try dsimp only))
          refine ⟨by omega, fun j hj h3 h4 => ?_⟩
          rcases (by omega : j < k ∨ j = k) with h5 | rfl
          · exact h2 j h5 h3 h4
          · exact he
        · ((repeat' (first | ((first | apply WL.opN | apply WD.opN); exact yF; dsimp only [setD, z0, z1]) | refine WL.nil ?_ | refine WD.nil ?_ | refine WC.seqK fun Kx hK => ?_ | (refine hK _ _ ?_; clear hK) | refine WC.region ?_ | (apply WC.draw; kernel_rfl; kernel_rfl) | ((first | apply WL.opN | apply WD.opN); (focus ((first | (refine SY.ix (R := RI) (_gR := inferInstance) (k := k) elI (OpD.t rfl) (OpD.t rfl) (by omega)) | ((first | apply SY.move | apply SY.assign | apply SY.lss | apply SY.neq) <;> (exact oD)) | fail); all_goals infer_instance)); dsimp only [setD, z0, z1]) | (apply WC.condD; (exact oD); all_goals (intro h; try exact xD)) | (apply WC.condN; (exact oD); all_goals (intro h; try exact xD)) | refine WC.skip ?_ | refine WC.ret ?_ | refine WC.block ?_ | refine ThenD.r ?_ | refine InBlockD.r ?_)); all_goals (first | ((repeat clear hK); (repeat clear Kx))))
          all_goals try (exfalso; first | contradiction | omega)
          (refine ⟨trivial, _, rfl, ?_⟩; refine FinD.b ?_)
          symm; rw [decide_eq_false_iff_not]; intro e; subst e; exact he rfl
      · have hlt : ¬ (k : Int) < (a.length : Int) := by omega
        ((repeat' (first | ((first | apply WL.opN | apply WD.opN); exact yF; dsimp only [setD, z0, z1]) | refine WL.nil ?_ | refine WC.seqK fun Kx hK => ?_ | (refine hK _ _ ?_; clear hK) | (refine Kont.skip ?_; clear hK) | refine WC.region ?_ | ((first | apply WL.opN | apply WD.opN); (focus ((first | ((first | apply SY.move | apply SY.assign | apply SY.lss | apply SY.neq) <;> (exact oD)) | fail); all_goals infer_instance)); dsimp only [setD, z0, z1]) | (apply WC.condD; (exact oD); all_goals (intro h; try exact xD)) | refine WC.ret ?_ | refine WC.exit ?_)); all_goals (first | ((repeat clear hK); (repeat clear Kx))))
        all_goals try (exfalso; first | contradiction | omega)
        (refine ⟨trivial, _, rfl, ?_⟩; refine FinD.b ?_)
        symm; rw [decide_eq_true_eq]; exact List.ext_getElem hl fun j h3 h4 => h2 j (by omega) h3 h4
  · have hlI : (a.length : Int) ≠ (b.length : Int) := by omega
    ((repeat' (first | ((first | apply WL.opN | apply WD.opN); exact yF; dsimp only [setD, z0, z1]) | refine WL.nil ?_ | refine WC.seqK fun Kx hK => ?_ | (refine hK _ _ ?_; clear hK) | refine WC.region ?_ | ((first | apply WL.opN | apply WD.opN); (focus ((first | ((first | apply SY.move | apply SY.assign | apply SY.lss | apply SY.neq) <;> (exact oD)) | (apply SY.len; (exact oD); (exact nD); (exact uD)) | fail); all_goals infer_instance)); dsimp only [setD, z0, z1]) | (apply WC.condN; (exact oD); all_goals (intro h; try exact xD)) | refine WC.ret ?_ | refine ThenD.r ?_)); all_goals (first | ((repeat clear hK); (repeat clear Kx))))
    all_goals try (exfalso; first | contradiction | omega)
    (refine ⟨trivial, _, rfl, ?_⟩; refine FinD.b ?_)
    symm; rw [decide_eq_false_iff_not]; intro e; subst e; exact hl rfl
end Go.Proofs.Ytpiidgcljlalmaa
namespace Go.Proofs.Ytpiidgcljlalmaa
open Go.RowKit
def ArrG {α : Type} (R : Rel α) : Rel (List α) := fun P w v xs => Arr R P w v xs ∧ ∃ a, v = .slice a xs.length xs.length
instance {α : Type} (R : Rel α) [Good R] : Good (ArrG R) where
  weak := fun ⟨h, k⟩ q => ⟨Good.weak (R := Arr R) h q, k⟩
  move := fun ⟨h, k⟩ q => ⟨Good.move (R := Arr R) h q, k⟩
  bound := fun ⟨h, k⟩ => ⟨Good.bound (R := Arr R) h, k⟩
section
set_option linter.unusedSimpArgs false
variable {P : Program} {ops : Array Oper} {hp : List HObj} {o : Oper} {fr : List Dat} {d : Dat} {Q : Post} {rest : List Oper}
variable {dst : Option Tmp} {ty : TypeId} {ps : String} {af : Array Edge} {g : Option (Nat × Bool)}
variable {t e : TypeId} {bytes : Nat} {z : Value} {ag : Bool}
theorem run_slice3 (E : ElT P t e 1 z bytes ag) {w : World} {ad : Option Addr} {len cap h : Nat} (h2 : h ≤ cap) :
    (Instr.sliceAt t (.slice ad len cap) none (some (.int .i64 (h : Int))) (some (.int .i64 (h : Int)))).run P w = .ok (.slice (if h = 0 then ad else ad.map (·.add 0)) h h) w := by
  obtain ⟨i, hi', hz, hs, hb⟩ := info_parts E.info
  have a2 : (0 : Int) ≤ h ∧ (h : Int) ≤ (cap : Nat) := by omega
  simp [Instr.sliceAt, Instr.slice, run_underlying E.und, Instr.sliceBounds, Instr.sliceBound, asIntOf, sizeOf, typeInfo, hi', hs, h2]
theorem SY.full3 {x y y' : Operand} (E : ElT P t e 1 z bytes ag) {α : Type} {R : Rel α} {_gR : Good R} {xs : List α} {j j' : Int} (hx : OpD fr x (dS (Arr R) xs)) (hy : OpD fr y (dI j)) (hj : j = (xs.length : Int)) (hy' : OpD fr y' (dI j')) (hj' : j' = (xs.length : Int)) :
    SY P ops hp { dst := dst, op := .slice t x none (some y) (some y'), type := ty, pos := ps, after := af, guard := g } fr (dS (ArrG R) xs) := SY.val fun {I w a} ho => by
  have h1 : Arr R I w (a.eval x) xs := hx.get (by simp [Op.operands]) ho
  have h2 : a.eval y = .int .i64 (xs.length : Int) := hj ▸ hy.get (by simp [Op.operands]) ho
  have h3 : a.eval y' = .int .i64 (xs.length : Int) := hj' ▸ hy'.get (by simp [Op.operands]) ho
  have h1' := h1
  obtain ⟨ad, cap, hv, c1, c2, c3⟩ := h1
  have hr := run_slice3 (w := w) (ad := ad) (len := xs.length) E c1
  refine ⟨.slice (if xs.length = 0 then ad else ad.map (·.add 0)) xs.length xs.length, ?_, ?_⟩
  · unfold execOp
    simp only [hv, h2, h3, Option.map_none, Option.map_some, Sem.run_bind, hr, Result.andThen_ok, Sem.run_pure]
  · refine ⟨⟨_, _, rfl, Nat.le_refl _, by omega, fun k hk => ?_⟩, _, rfl⟩
    obtain ⟨u, b, off, r1, r2, rfl, r4, r5⟩ := c3 k hk
    refine ⟨u, b, off, r1, r2, ?_, r4, r5⟩
    rw [if_neg (by omega)]
    simp [Addr.add_lit]
theorem SY.appG {s y : Operand} (E : ElT P t e 1 z bytes ag) {α : Type} {R : Rel α} {_gR : Good R} {xs ys : List α} (hs : OpD fr s (dS (ArrG R) xs)) (hy : OpD fr y (dS (Arr R) ys)) (hy0 : 0 < ys.length) (hby : 0 < bytes) (hlen : (xs.length + ys.length) * bytes ≤ 140737488355328) :
    SY P ops hp { dst := dst, op := .call { callee := .builtin .append, args := #[s, y], argTypes := #[t, t] }, type := ty, pos := ps, after := af, guard := g } fr (dS (Arr R) (xs ++ ys)) := SY.valE fun {P0 B w0 w a} hh ho => by
  obtain ⟨h1, a1, hv1⟩ := hs.get (by simp [Op.operands, Call.operands]) ho
  have h2 : Arr R _ w (a.eval y) ys := hy.get (by simp [Op.operands, Call.operands]) ho
  obtain ⟨i, hi, hz, hsz, hb⟩ := info_parts E.info
  have hm : xs.length + ys.length ≤ maxLen := by
    have : (xs.length + ys.length) * 1 ≤ (xs.length + ys.length) * bytes := Nat.mul_le_mul_left _ hby
    simp only [maxLen]; omega
  have h1' := h1
  rw [hv1] at h1'
  have fin : ∀ v' w', (Builtin.append_ #[t, t] ty #[a.eval s, a.eval y]).run P w = .ok v' w' → Ext w w' → Arr R (Imm P0 B hp) w' v' (xs ++ ys) → ∃ v w', (execOp a.eval { dst := dst, op := .call { callee := .builtin .append, args := #[s, y], argTypes := #[t, t] }, type := ty, pos := ps, after := af, guard := g }).run P w = .ok (.value v) w' ∧ Ext w w' ∧ (dS (Arr R) (xs ++ ys)).rd (Imm P0 B hp) w' v := by
    intro v' w' hr hx hd
    refine ⟨v', w', ?_, hx, hd⟩
    unfold execOp
    simp only [resolve, invoke, builtin, List.map_toArray, List.map_cons, List.map_nil, Sem.run_bind, Sem.run_pure, Result.andThen_ok, hr]
  have h2' := h2
  obtain ⟨ad2, cap2, hv2, q1, q2, q3⟩ := h2
  have h0 : ys ≠ [] := fun h => by rw [h] at hy0; exact absurd hy0 (Nat.lt_irrefl 0)
  cases ad2 with
  | none =>
    obtain ⟨_, _, _, _, _, hc, _⟩ := q3 0 (List.length_pos_iff.2 h0)
    cases hc
  | some ad2 =>
    rw [hv2] at h2'
    obtain ⟨n1, nl, nc, ns, ne⟩ := arr_news h2'
    have key : ∃ (o1 : List Value) (v' : Value) (w' : World), o1.length = xs.length ∧ (∀ u ∈ o1, u.oneCell' = true) ∧ (∀ (k : Nat) (h : k < o1.length) (h' : k < xs.length), R (Imm P0 B hp) w o1[k] xs[k]) ∧ (Builtin.append_ #[t, t] ty #[a.eval s, a.eval y]).run P w = .ok v' w' ∧ w'.ownsRow w.heap.size e 1 v' (xs.length + ys.length) (o1 ++ n1) ∧ w.grownBy w' none := by
      cases a1 with
      | none =>
        have hx0 : xs = [] := by
          obtain ⟨ad0, cap0, hvv, _, _, d3⟩ := h1'
          cases hvv
          cases xs with
          | nil => rfl
          | cons x xs => obtain ⟨_, _, _, _, _, hc, _⟩ := d3 0 (by simp); cases hc
        subst hx0
        obtain ⟨v', w', hr, r1, r2, r3⟩ := run_append_own_at (P := P) w w.heap.size t ty e i z 1 bytes E.und hi hz hsz hb E.zs Nat.one_pos (.slice none 0 0) 0 [] (World.ownsRow_nil w _ e 1) ad2 ys.length cap2 n1 (by omega) nc ns (by simpa using hm) (by simpa using hlen) (Nat.le_refl _)
        exact ⟨[], v', w', rfl, (fun u hu => by cases hu), (fun k h => absurd h (Nat.not_lt_zero k)), by rw [hv1, hv2]; exact hr, by simpa using r1, r2⟩
      | some a1 =>
        obtain ⟨o1, ol, oc, os, oe⟩ := arr_news h1'
        obtain ⟨v', w', hr, hown, hgr⟩ := run_append_arg_grows (P := P) w t ty e i z 1 bytes E.und hi hz hsz hb E.zs Nat.one_pos a1 xs.length xs.length o1 (by rw [ol, Nat.mul_one]) oc ad2 ys.length cap2 n1 (by rw [nl, Nat.mul_one]) nc (by omega) hm hlen
        exact ⟨o1, v', w', ol, os, oe, by rw [hv1, hv2]; exact hr, hown, hgr⟩
    obtain ⟨o1, v', w', ol, os, oe, hr, hown, hgr⟩ := key
    have hx : Ext w w' := ⟨hgr.os, hgr.tape, hgr.output, hgr.size, fun k hk => hgr.block k hk (by simp)⟩
    refine fin v' w' hr hx ?_
    obtain ⟨a3, cap3, hv3, d1, d2, d3⟩ := ownsRow_shape hown
    refine ⟨a3, cap3, by rw [List.length_append]; exact hv3, by rw [List.length_append]; exact d1, d2, fun k hk => ?_⟩
    have hkl : k < (o1 ++ n1).length := by rw [List.length_append] at hk ⊢; omega
    have h1c : (o1 ++ n1)[k].oneCell' = true := by
      rcases List.mem_append.1 (List.getElem_mem hkl) with h | h
      · exact os _ h
      · exact ns _ h
    obtain ⟨gb, ha, _, hB, hc'⟩ := d3 k (o1 ++ n1)[k] (List.getElem?_eq_getElem hkl)
    have hR : R (Imm P0 B hp) w (o1 ++ n1)[k] (xs ++ ys)[k] := by
      by_cases hk1 : k < o1.length
      · rw [List.getElem_append_left hk1, List.getElem_append_left (by omega)]
        exact oe k hk1 (by omega)
      · rw [List.getElem_append_right (by omega), List.getElem_append_right (by omega)]
        have := ne (k - o1.length) (by rw [List.length_append] at hkl; omega) (by rw [List.length_append] at hk; omega)
        have e3 : k - o1.length = k - xs.length := by rw [ol]
        simp only [e3] at this ⊢
        exact this
    exact ⟨(o1 ++ n1)[k], gb, 0, Good.ext (R := R) hR hx, h1c, ha, hh.fresh hB, by rw [Nat.zero_add]; exact hc'⟩
end
end Go.Proofs.Ytpiidgcljlalmaa
namespace Go.Proofs.Ytpiidgcljlalmaa
open Go.RowKit
theorem tzSS : TyZ Try.prog 22 (.slice none 0 0) := ⟨by kernel_rfl⟩
abbrev mO (b7 : Nat) (v3 : Value) (most : Int) (vo : Value) (out : List (List Int)) : List HObj := [hRow vo 25 Ints out, hCell b7 22 1 false (dX vo), hKnow v3 (dP 1 false (dI most))]
structure MR (most : Nat) (out ms : List (List Int)) where
  vo : Value
  out' : List (List Int)
  r : Bool
  hr : r = decide (out.length + ms.length ≤ most)
  ho : r = true → out' = out ++ ms
theorem ArgsX.two {fr : List Dat} {x y : Operand} {v1 v2 : Value} (h1 : OpD fr x (dX v1)) (h2 : OpD fr y (dX v2)) : ArgsX fr [x, y] [v1, v2] := ⟨rfl, fun i y u h1' h2' => by
  match i, h1', h2' with
  | 0, a, b => cases a; cases b; exact h1
  | 1, a, b => cases a; cases b; exact h2⟩
set_option linter.unusedSimpArgs false
set_option linter.unusedVariables false
set_option maxHeartbeats 2000000
set_option maxRecDepth 100000
theorem found_c (b7 : Nat) (v3 : Value) (most : Nat) (vo : Value) (out : List (List Int)) (m : List Int) (hol : out.length ≤ 2000) :
    CallC Try.prog 56 ([dS Ints m] ++ [ptrN b7, v3].map dX) (mO b7 v3 most vo out) (fun d hp2 => ∃ vo', d = dB (decide (((out ++ [m]).length : Int) ≤ (most : Int))) ∧ hp2 = mO b7 v3 most vo' (out ++ [m])) := by
  (refine CallC.intro Try.func56 rfl rfl (fun hp => ?_); simp only [Try.ntmps56, List.length_cons, List.length_nil, List.length_append, List.length_map, Nat.reduceAdd, Nat.reduceSub, List.replicate_succ, List.replicate_zero, List.cons_append, List.nil_append, List.map_cons, List.map_nil, List.append_assoc])
  have h24 : (out.length + 1) * 24 ≤ 140737488355328 := by omega
  ((repeat' (first | (apply WL.opN; exact yF; dsimp only [setD, z0, z1]) | refine WL.nil ?_ | refine WC.seqK fun Kx hK => ?_ | (refine hK _ _ ?_; clear hK) | refine WC.region ?_ |  (refine WL.rowIs (mAt 0 rfl) fun hvv => ?_; refine WL.ofSW (SW.at 1 rfl fun q => SW.storeK tySS (OpD.t rfl) (OpD.t rfl) (shape_X hvv)) fun _ => ?_; dsimp only [setD, z0, z1]) | ((first | apply WL.pushK | apply WL.push1); (exact eD); exact OpD.t rfl; (exact oD); (intro _; exact hD); (exact (by simp)); (exact (by simp)); (first | exact ⟨by decide, by decide⟩ | skip); decide; (exact lD); (intro _; dsimp only [setD, z0, z1]); all_goals (try infer_instance)) | (apply WL.opN; (focus ((first | (apply SY.loadH tySS; exact OpD.t rfl; exact mAt 1 rfl) | (exact SY.loadKn tyI (OpD.t rfl) (mAt 2 rfl)) | (apply SY.lenR; exact OpD.t rfl; exact mAt 0 rfl; exact elSi.unt) | ((first | apply SY.move | apply SY.assign | apply SY.leq) <;> (exact oD)) | fail); all_goals infer_instance)); dsimp only [setD, z0, z1]) | refine WC.ret ?_)); all_goals (first | ((repeat clear hK); (repeat clear Kx))))
  all_goals exact ⟨trivial, _, mO b7 v3 most _ (out ++ [m]), rfl, rfl, _, by rw [List.length_append, List.length_singleton], rfl⟩
set_option maxHeartbeats 16000000 in
theorem models_c (b7 : Nat) (v3 : Value) (V most : Nat) (hV : V ≤ 10) (hm : most ≤ 1024) : ∀ (n : Nat) (a : List Int) (l : List (List Int)) (vo : Value) (out : List (List Int)), a.length + n = V → FromV V (a.length + 1) l → out.length ≤ most →
    CallC Try.prog 55 ([dI (V : Int), dS Rows l, dS Ints a, dX (.func (.func 56) #[] #[ptrN b7, v3])] ++ ([] : List Value).map dX) (mO b7 v3 most vo out) (fun d hp2 => ∃ q : MR most out (modF n l a), d = dB q.r ∧ hp2 = mO b7 v3 most q.vo q.out') := by
  intro n
  induction n with
  | zero =>
    intro a l vo out ha hl ho
    (refine CallC.intro Try.func55 rfl rfl (fun hp => ?_); simp only [Try.ntmps55, List.length_cons, List.length_nil, List.length_append, List.length_map, Nat.reduceAdd, Nat.reduceSub, List.replicate_succ, List.replicate_zero, List.cons_append, List.nil_append, List.map_cons, List.map_nil, List.append_assoc])
    have hw := wrong_p l
    cases he : emptyC l with
    | true =>
      rw [he] at hw
      have e : modF 0 l a = [] := by unfold modF; rw [if_pos he]
      rw [e]
      ((repeat' (first | ((first | apply WL.opN | apply WD.opN); exact yF; dsimp only [setD, z0, z1]) | refine WL.nil ?_ | refine WC.seqK fun Kx hK => ?_ | (refine hK _ _ ?_; clear hK) | refine WC.region ?_ | ((first | apply WL.opN | apply WD.opN); (focus ((first | (apply SY.call (hw) Try.call71; (exact aD)) | fail); all_goals infer_instance)); dsimp only [setD, z0, z1]) | (apply WC.condT; (exact oD); (with_reducible rfl)) | refine WC.ret ?_ | refine ThenD.r ?_)); all_goals (first | ((repeat clear hK); (repeat clear Kx))))
      all_goals try (exfalso; first | contradiction | omega)
      exact ⟨trivial, _, mO b7 v3 most vo out, rfl, rfl, ⟨vo, out, true, by simpa using ho, fun _ => by simp⟩, rfl, rfl⟩
    | false =>
      rw [he] at hw
      have e : modF 0 l a = [a] := by unfold modF; rw [if_neg (by simp [he])]
      rw [e]
      have hfc := found_c b7 v3 most vo out a (by omega)
      have hal : (a.length : Int) = (V : Int) := by omega
      ((repeat' (first | ((first | apply WL.opN | apply WD.opN); exact yF; dsimp only [setD, z0, z1]) | refine WL.nil ?_ | refine WC.seqK fun Kx hK => ?_ | (refine hK _ _ ?_; clear hK) | refine WC.region ?_ |  (refine WL.callC (hp1 := mO b7 v3 most vo out) (caps := [ptrN b7, v3]) hfc Try.call56 (OpD.t rfl) (ArgsD.cons (OpD.t rfl) ArgsD.nil) ?_; rintro d' hp2 ⟨vo', rfl, rfl⟩; dsimp only [setD, z0, z1, List.cons_append, List.nil_append]) | ((first | apply WL.opN | apply WD.opN); (focus ((first | (apply SY.call (hw) Try.call71; (exact aD)) | ((first | apply SY.move | apply SY.assign | apply SY.lss | apply SY.eql | apply SY.not) <;> (exact oD)) | (apply SY.len; (exact oD); (exact nD); (exact uD)) | fail); all_goals infer_instance)); dsimp only [setD, z0, z1]) | (apply WC.condF; (exact oD); (with_reducible rfl)) | (apply WC.condD; (exact oD); all_goals (intro h; try exact xD)) | refine WC.skip ?_ | refine WC.ret ?_ | refine ThenD.r ?_)); all_goals (first | ((repeat clear hK); (repeat clear Kx))))
      all_goals try (exfalso; first | contradiction | omega)
      refine ⟨trivial, _, mO b7 v3 most vo' (out ++ [a]), rfl, rfl, ⟨vo', out ++ [a], decide (((out ++ [a]).length : Int) ≤ (most : Int)), ?_, fun _ => rfl⟩, rfl, rfl⟩
      rw [List.length_append, List.length_singleton]
      exact decide_eq_decide.2 (by omega)
  | succ n ih =>
    intro a l vo out ha hl ho
    (refine CallC.intro Try.func55 rfl rfl (fun hp => ?_); simp only [Try.ntmps55, List.length_cons, List.length_nil, List.length_append, List.length_map, Nat.reduceAdd, Nat.reduceSub, List.replicate_succ, List.replicate_zero, List.cons_append, List.nil_append, List.map_cons, List.map_nil, List.append_assoc])
    have hw := wrong_p l
    cases he : emptyC l with
    | true =>
      rw [he] at hw
      have e : modF (n + 1) l a = [] := by unfold modF; rw [if_pos he]
      rw [e]
      ((repeat' (first | ((first | apply WL.opN | apply WD.opN); exact yF; dsimp only [setD, z0, z1]) | refine WL.nil ?_ | refine WC.seqK fun Kx hK => ?_ | (refine hK _ _ ?_; clear hK) | refine WC.region ?_ | ((first | apply WL.opN | apply WD.opN); (focus ((first | (apply SY.call (hw) Try.call71; (exact aD)) | fail); all_goals infer_instance)); dsimp only [setD, z0, z1]) | (apply WC.condT; (exact oD); (with_reducible rfl)) | refine WC.ret ?_ | refine ThenD.r ?_)); all_goals (first | ((repeat clear hK); (repeat clear Kx))))
      all_goals try (exfalso; first | contradiction | omega)
      exact ⟨trivial, _, mO b7 v3 most vo out, rfl, rfl, ⟨vo, out, true, by simpa using ho, fun _ => by simp⟩, rfl, rfl⟩
    | false =>
      rw [he] at hw
      have e : modF (n + 1) l a = modF n (asgI l ((a.length : Int) + 1)) (a ++ [(a.length : Int) + 1]) ++ modF n (asgI l (-((a.length : Int) + 1))) (a ++ [-((a.length : Int) + 1)]) := by
        conv => lhs; unfold modF
        rw [if_neg (by simp [he])]
      rw [e]
      obtain ⟨v, hv⟩ : ∃ v : Int, v = (a.length : Int) + 1 := ⟨_, rfl⟩
      rw [← hv]
      have hvb : 1 ≤ v ∧ v ≤ 10 := by omega
      have hal : ¬ (a.length : Int) = (V : Int) := by omega
      have hl1 := hl.asg (x := v) (.inl (by omega))
      have hl2 := hl.asg (x := -v) (.inr (by omega))
      have ha1 := assigned_p l v hl.len hl.clen (by omega)
      have ha2 := assigned_p l (-v) hl.len hl.clen (by omega)
      have hm1 := fun vo' out' ho' => ih (a ++ [v]) (asgI l v) vo' out' (by rw [List.length_append, List.length_singleton]; omega) (by rw [List.length_append, List.length_singleton]; exact hl1) ho'
      have hm2 := fun vo' out' ho' => ih (a ++ [-v]) (asgI l (-v)) vo' out' (by rw [List.length_append, List.length_singleton]; omega) (by rw [List.length_append, List.length_singleton]; exact hl2) ho'
      generalize modF n (asgI l v) (a ++ [v]) = ms1 at hm1 ⊢
      generalize modF n (asgI l (-v)) (a ++ [-v]) = ms2 at hm2 ⊢
      have h8 : (a.length + 1) * 8 ≤ 140737488355328 := by omega
      have hl2' : ([v, -v] : List Int).length = 2 := rfl
      have h0x : ([v, -v] : List Int)[0]'(Nat.zero_lt_succ _) = v := rfl
      have h1x : ([v, -v] : List Int)[1]'(Nat.lt_succ_self _) = -v := rfl
      (repeat' (first | ((first | apply WL.opN | apply WD.opN); exact yF; dsimp only [setD, z0, z1]) | refine WL.nil ?_ | refine WC.seqK fun Kx hK => ?_ | (refine hK _ _ ?_; clear hK) | refine WC.region ?_ | ((first | apply WL.opN | apply WD.opN); (focus ((first | (apply SY.call (hw) Try.call71; (exact aD)) | (exact SY.neg (OpD.t rfl) (by omega)) | (refine SY.mono (SY.add (OpD.t rfl) OpD.i (by omega)) (le_ii hv.symm)) | ((first | apply SY.move | apply SY.assign | apply SY.lss | apply SY.eql | apply SY.not) <;> (exact oD)) | (apply SY.len; (exact oD); (exact nD); (exact uD)) | (apply SY.build1'; (exact eD); ((try simp only [List.map_cons, List.map_nil]); (repeat (first | exact ElsD.nl | (apply ElsD.cn; (first | exact OpD.t rfl | exact OpD.i | exact OpD.b | exact OpD.tle rfl (by first | exact Dat.le_nil | exact Dat.le_nilK (by decide)) | exact ⟨Dat.le_nil⟩ | exact ⟨Dat.le_nilK (by decide)⟩))))); rfl; rfl; (intro _; first | exact shape_K | exact shape_I | exact shape_A | exact shape_B); (exact (by simp))) | fail); all_goals infer_instance)); dsimp only [setD, z0, z1]) | (apply WC.condF; (exact oD); (with_reducible rfl)) | (apply WC.condD; (exact oD); all_goals (intro h; try exact xD)) | refine WC.skip ?_ | refine WC.block ?_))
      all_goals try (exfalso; first | contradiction | omega)
      (refine WC.loopU (X := Nat × Value × List (List Int)) (fun x => [(29, dI (x.1 : Int)), (8, dA), (11, dA), (30, dA), (31, dA), (32, dA), (33, dA), (34, dA), (35, dA), (36, dA), (37, dA), (38, dA), (39, dA), (40, dA), (41, dA), (42, dA), (43, dA), (44, dA), (45, dA), (46, dA), (47, dA), (48, dA), (49, dA)]) (fun x => (mO b7 v3 most x.2.1 x.2.2 ++ hp)) (fun x => 2 - x.1) (fun x => x.2.2.length ≤ most ∧ (x.1 = 0 ∧ x.2.2 = out ∨ x.1 = 1 ∧ x.2.2 = out ++ ms1 ∨ x.1 = 2 ∧ x.2.2 = out ++ (ms1 ++ ms2))) (0, vo, out) ?start ?frame0 ?objs0 ?round)
      case start => exact ⟨ho, .inl ⟨rfl, rfl⟩⟩
      case frame0 => ((try dsimp only [upds, z0, z1]); repeat (first | exact LeF.nil | refine LeF.co (k := ?_)))
      case objs0 => rfl
      case round =>
        rintro ⟨k, vo1, out1⟩ ⟨q1, q2⟩
        simp only at q1 q2
        dsimp only [upds, z0, z1]
        rcases q2 with ⟨rfl, rfl⟩ | ⟨rfl, rfl⟩ | ⟨rfl, rfl⟩
        · have hmc := hm1 vo1 out1 q1
          ((repeat' (first |  (refine WC.drawM (fun _ => True) 15 1 [(0, false), (1, false), (2, false), (3, false), (4, false), (5, false), (6, false), (7, false), (8, false), (9, false), (10, false), (11, false), (12, false), (13, false), (14, true)] [true, true, true, true, true, true, true, true, true, true, true, true, true, true, true, false] (by kernel_rfl) (by kernel_rfl) (by kernel_rfl) rfl (trivial) ?_) |  (first | refine WA.one (S := [true, true, true, true, true, true, true, true, true, true, true, true, true, true, true, false]) (i := 15) (by kernel_rfl) rfl ?_ | refine WA.nil (S := [true, true, true, true, true, true, true, true, true, true, true, true, true, true, true, true]) (by kernel_rfl) ?_) |  (refine WM.writeL rfl (SW.callC (hp1 := mO b7 v3 most vo1 out1) (caps := []) (H := fun q : MR most out1 ms1 => mO b7 v3 most q.vo q.out') (D := fun q => dB q.r) hmc Try.call55 OpD.f (ArgsD.cons (OpD.t rfl) (ArgsD.cons (OpD.t rfl) (ArgsD.cons (OpD.t rfl) (ArgsD.cons (OpD.t rfl) ArgsD.nil)))) fun _ _ h => h) (fun _ => trivial) fun qq => ?_; dsimp only [setD, z0, z1, List.cons_append, List.nil_append]) | (refine WM.nil ?_) | (apply WM.readL rfl; (focus (intro c hcc; apply SYG.yes; (exact want_none rfl); ((first | (apply SY.call (ha1) Try.call72; exact ArgsD.cons (OpD.t rfl) (ArgsD.cons (OpD.t rfl) (ArgsD.nil))) | (exact SY.full3 elI (R := RI) (_gR := inferInstance) (OpD.t rfl) (OpD.t rfl) (by omega) (OpD.t rfl) (by omega)) | (exact SY.build1' elI (R := RI) (_gR := inferInstance) (els := [v]) (ElsD.cn (OpD.t rfl) ElsD.nl) rfl rfl (fun _ => shape_I) (by simp)) | (exact SY.appG elI (R := RI) (_gR := inferInstance) (OpD.t rfl) (OpD.t rfl) (by simp) (by decide) (by simpa using h8)) | ((first | apply SY.move | apply SY.assign | apply SY.lss | apply SY.eql | apply SY.not) <;> (exact oD)) | ((first | apply SY.add | apply SY.sub) <;> first | exact oD | omega) | fail); all_goals infer_instance))); dsimp only [setD, z0, z1]) | ((first | apply WL.opN | apply WD.opN); exact yF; dsimp only [setD, z0, z1]) | refine WL.nil ?_ | refine WC.seqK fun Kx hK => ?_ | (refine hK _ _ ?_; clear hK) | refine WC.region ?_ | ((first | apply WL.opN | apply WD.opN); (focus ((first | ((first | apply SY.move | apply SY.assign | apply SY.lss | apply SY.eql | apply SY.not) <;> (exact oD)) | ((first | apply SY.add | apply SY.sub) <;> first | exact oD | omega) | (apply SY.ix; (exact eD); (exact oD); (exact oD); exact kD) | fail); all_goals infer_instance)); dsimp only [setD, z0, z1]) | (apply WC.condD; (exact oD); all_goals (intro h; try exact xD)) | (apply WC.condNB; (exact oD); all_goals (intro h; try exact xD)) | refine WC.skip ?_ | refine WC.ret ?_ | refine WC.block ?_ | refine ThenD.n ?_ | refine ThenD.r ?_ | refine InBlockD.r ?_)); all_goals (first | ((repeat clear hK); (repeat clear Kx))))
          all_goals try (exfalso; first | contradiction | omega)
          · have h1 : ¬ (out1.length + ms1.length ≤ most) := fun q => by
              have := qq.hr
              rw [decide_eq_true q, h] at this; cases this
            exact ⟨trivial, _, mO b7 v3 most qq.vo qq.out', rfl, rfl, ⟨qq.vo, qq.out', false, by symm; rw [decide_eq_false_iff_not, List.length_append]; omega, fun h => by cases h⟩, rfl, rfl⟩
          · have h1 : out1.length + ms1.length ≤ most := by
              have := qq.hr
              rw [h] at this
              exact of_decide_eq_true this.symm
            have h2 := qq.ho h
            (refine ⟨(1, qq.vo, qq.out'), ?_, by first | omega | (simp only; omega), rfl, ?_⟩; rotate_left; ((try dsimp only [upds, z0, z1]); repeat (first | exact LeF.nil | refine LeF.co (k := ?_))); (try dsimp only))
            exact ⟨by rw [h2, List.length_append]; exact h1, .inr (.inl ⟨rfl, h2⟩)⟩
        · have hmc := hm2 vo1 (out ++ ms1) q1
          ((repeat' (first |  (refine WC.drawM (fun _ => True) 15 1 [(0, false), (1, false), (2, false), (3, false), (4, false), (5, false), (6, false), (7, false), (8, false), (9, false), (10, false), (11, false), (12, false), (13, false), (14, true)] [true, true, true, true, true, true, true, true, true, true, true, true, true, true, true, false] (by kernel_rfl) (by kernel_rfl) (by kernel_rfl) rfl (trivial) ?_) |  (first | refine WA.one (S := [true, true, true, true, true, true, true, true, true, true, true, true, true, true, true, false]) (i := 15) (by kernel_rfl) rfl ?_ | refine WA.nil (S := [true, true, true, true, true, true, true, true, true, true, true, true, true, true, true, true]) (by kernel_rfl) ?_) |  (refine WM.writeL rfl (SW.callC (hp1 := mO b7 v3 most vo1 (out ++ ms1)) (caps := []) (H := fun q : MR most (out ++ ms1) ms2 => mO b7 v3 most q.vo q.out') (D := fun q => dB q.r) hmc Try.call55 OpD.f (ArgsD.cons (OpD.t rfl) (ArgsD.cons (OpD.t rfl) (ArgsD.cons (OpD.t rfl) (ArgsD.cons (OpD.t rfl) ArgsD.nil)))) fun _ _ h => h) (fun _ => trivial) fun qq => ?_; dsimp only [setD, z0, z1, List.cons_append, List.nil_append]) | (refine WM.nil ?_) | (apply WM.readL rfl; (focus (intro c hcc; apply SYG.yes; (exact want_none rfl); ((first | (apply SY.call (ha2) Try.call72; exact ArgsD.cons (OpD.t rfl) (ArgsD.cons (OpD.t rfl) (ArgsD.nil))) | (exact SY.full3 elI (R := RI) (_gR := inferInstance) (OpD.t rfl) (OpD.t rfl) (by omega) (OpD.t rfl) (by omega)) | (exact SY.build1' elI (R := RI) (_gR := inferInstance) (els := [-v]) (ElsD.cn (OpD.t rfl) ElsD.nl) rfl rfl (fun _ => shape_I) (by simp)) | (exact SY.appG elI (R := RI) (_gR := inferInstance) (OpD.t rfl) (OpD.t rfl) (by simp) (by decide) (by simpa using h8)) | ((first | apply SY.move | apply SY.assign | apply SY.lss | apply SY.eql | apply SY.not) <;> (exact oD)) | ((first | apply SY.add | apply SY.sub) <;> first | exact oD | omega) | fail); all_goals infer_instance))); dsimp only [setD, z0, z1]) | ((first | apply WL.opN | apply WD.opN); exact yF; dsimp only [setD, z0, z1]) | refine WL.nil ?_ | refine WC.seqK fun Kx hK => ?_ | (refine hK _ _ ?_; clear hK) | refine WC.region ?_ | ((first | apply WL.opN | apply WD.opN); (focus ((first | (refine SY.ixE1 (R := RI) (_gR := inferInstance) (k := 1) elI (Nat.lt_succ_self _) h1x (OpD.t rfl) (OpD.t rfl)) | ((first | apply SY.move | apply SY.assign | apply SY.lss | apply SY.eql | apply SY.not) <;> (exact oD)) | ((first | apply SY.add | apply SY.sub) <;> first | exact oD | omega) | fail); all_goals infer_instance)); dsimp only [setD, z0, z1]) | (apply WC.condD; (exact oD); all_goals (intro h; try exact xD)) | (apply WC.condNB; (exact oD); all_goals (intro h; try exact xD)) | refine WC.skip ?_ | refine WC.ret ?_ | refine WC.block ?_ | refine ThenD.n ?_ | refine ThenD.r ?_ | refine InBlockD.r ?_)); all_goals (first | ((repeat clear hK); (repeat clear Kx))))
          all_goals try (exfalso; first | contradiction | omega)
          · have h1 : ¬ ((out ++ ms1).length + ms2.length ≤ most) := fun q => by
              have := qq.hr
              rw [decide_eq_true q, h] at this; cases this
            exact ⟨trivial, _, mO b7 v3 most qq.vo qq.out', rfl, rfl, ⟨qq.vo, qq.out', false, by symm; rw [decide_eq_false_iff_not, List.length_append]; rw [List.length_append] at h1; omega, fun h => by cases h⟩, rfl, rfl⟩
          · have h1 : (out ++ ms1).length + ms2.length ≤ most := by
              have := qq.hr
              rw [h] at this
              exact of_decide_eq_true this.symm
            have h2 := qq.ho h
            (refine ⟨(2, qq.vo, qq.out'), ?_, by first | omega | (simp only; omega), rfl, ?_⟩; rotate_left; ((try dsimp only [upds, z0, z1]); repeat (first | exact LeF.nil | refine LeF.co (k := ?_))); (try dsimp only))
            exact ⟨by rw [h2, List.length_append]; exact h1, .inr (.inr ⟨rfl, by rw [h2, List.append_assoc]⟩)⟩
        · ((repeat' (first | ((first | apply WL.opN | apply WD.opN); exact yF; dsimp only [setD, z0, z1]) | refine WL.nil ?_ | refine WC.seqK fun Kx hK => ?_ | (refine hK _ _ ?_; clear hK) | (refine Kont.skip ?_; clear hK) | refine WC.region ?_ | ((first | apply WL.opN | apply WD.opN); (focus ((first | ((first | apply SY.move | apply SY.assign | apply SY.lss | apply SY.eql | apply SY.not) <;> (exact oD)) | fail); all_goals infer_instance)); dsimp only [setD, z0, z1]) | (apply WC.condD; (exact oD); all_goals (intro h; try exact xD)) | refine WC.ret ?_ | refine WC.exit ?_)); all_goals (first | ((repeat clear hK); (repeat clear Kx))))
          all_goals try (exfalso; first | contradiction | omega)
          exact ⟨trivial, _, mO b7 v3 most vo1 (out ++ (ms1 ++ ms2)), rfl, rfl, ⟨vo1, out ++ (ms1 ++ ms2), true, by symm; rw [decide_eq_true_eq]; rw [List.length_append] at q1; exact q1, fun _ => rfl⟩, rfl, rfl⟩
set_option maxHeartbeats 8000000 in
theorem models43_p (V : Nat) (l : List (List Int)) (most : Nat) (hV : V ≤ 10) (hm : most ≤ 1024) (hck : checkI (V : Int) l = 0) : Fn Try.prog 22 [dS Cls ((V : Int), l), dI (most : Int)] (dT [dS Rows (if (allF V l []).length ≤ most then allF V l [] else []), dI (if (allF V l []).length ≤ most then 0 else 5)]) := by
  obtain ⟨_, _, hll, hcl⟩ := checkI_zero hck
  have hw : WfL V l := (clausesI_iff (by omega)).1 hcl
  have h1 := check43_p (V : Int) l (irr_wf (by omega) hw)
  rw [hck] at h1
  have hmc := fun b7 v3 => models_c b7 v3 V most hV hm V [] l nilV [] (by simp) (fromV_wf (by omega) hw (by omega)) (Nat.zero_le _)
  rw [models_same fun c hc x hx => (hw c hc).rng x hx] at hmc
  generalize allF V l [] = ms at hmc ⊢
  (refine Fn.intro2 Try.func22 rfl rfl ?_; simp only [Try.ntmps22, List.length_cons, List.length_nil, Nat.reduceAdd, Nat.reduceSub, List.replicate_succ, List.replicate_zero, List.cons_append, List.nil_append])
  (repeat' (first |  (refine WC.only 1 (Halt.go ?_)) | (apply WL.opN; exact yF; dsimp only [setD, z0, z1]) | refine WL.nil ?_ | refine WC.seqK fun Kx hK => ?_ | (refine hK _ _ ?_; clear hK) | refine WC.region ?_ | (apply WL.opG; (focus (first | exact wN | (apply SYG.yes; (exact wY); ((first | (apply SY.box; (exact oD); (exact hD)) | fail); all_goals infer_instance)))); dsimp only [setD, z0, z1])))
  refine ⟨?_⟩
  refine WC.pin 3 rfl fun v3 => ?_
  dsimp only [z0, z1]
  (repeat' (first |  (refine WC.only 10 (Halt.go ?_)) | (apply WL.opN; exact yF; dsimp only [setD, z0, z1]) | refine WL.nil ?_ | refine WC.seqK fun Kx hK => ?_ | (refine hK _ _ ?_; clear hK) | refine WC.region ?_ |  (refine WL.alloc (T := 22) tzSS (shape_X rfl) fun b7 => WL.nilRow 25 Ints ?_; dsimp only [setD, z0, z1]) |  (refine WL.callC (hp := []) (hp1 := mO b7 v3 most nilV []) (caps := []) (hmc b7 v3) Try.call55 OpD.f (ArgsD.cons (OpD.t rfl) (ArgsD.cons (OpD.t rfl) (ArgsD.cons ⟨Dat.le_nil⟩ (ArgsD.cons (OpD.t rfl) ArgsD.nil)))) ?_; rintro d' hp2 ⟨qq, rfl, rfl⟩; dsimp only [setD, z0, z1, List.cons_append, List.nil_append]) | (apply WL.opG; (focus (first | exact wN | (apply SYG.yes; (exact wY); ((first | (apply SY.call (h1) Try.call38; (exact aD)) | (exact SY.loadKn tyI (OpD.t rfl) (mAt 0 rfl)) | (exact SY.makeX (vs := [ptrN b7, v3]) (ArgsX.two (OpD.t rfl) (OpD.t rfl))) | ((first | apply SY.move | apply SY.assign | apply SY.lss | apply SY.gtr | apply SY.neq | apply SY.not) <;> (exact oD)) | (apply SY.fldP0 clT; exact OpD.t rfl) | (apply SY.fldP1 clT; exact OpD.t rfl) | (apply SY.pickF; (exact oD); (with_reducible rfl); (exact oD)) | fail); all_goals infer_instance)))); dsimp only [setD, z0, z1]) | ((first | refine WL.caseP rfl rfl rfl (fun h => ?_) (fun h => ?_) | refine WL.caseN rfl rfl rfl (fun h => ?_) (fun h => ?_) | refine WL.caseB rfl rfl rfl (fun h => ?_) (fun h => ?_)) <;> (first | (exfalso; first | omega | contradiction) | (dsimp only [z0, z1]))) | (apply WC.condD; (exact oD); all_goals (intro h; try exact xD)) | (apply WC.condN; (exact oD); all_goals (intro h; try exact xD)) | refine WC.skip ?_ | refine WC.block ?_))
  all_goals try (exfalso; first | contradiction | omega)
  refine ⟨?_⟩
  obtain ⟨vo, out', r, hr, ho⟩ := qq
  rw [List.length_nil, Nat.zero_add] at hr
  by_cases hle : ms.length ≤ most
  · have hrt : r = true := by rw [hr]; exact decide_eq_true hle
    subst hrt
    have ho' : out' = ms := by simpa using ho rfl
    subst ho'
    ((repeat' (first | (apply WL.opN; exact yF; dsimp only [setD, z0, z1]) | refine WL.nil ?_ | refine WC.seqK fun Kx hK => ?_ | (refine hK _ _ ?_; clear hK) | refine WC.region ?_ | (apply WL.opG; (focus (first | exact wN | (apply SYG.yes; (exact wY); ((first | (apply SY.loadH tySS; exact OpD.t rfl; exact mAt 1 rfl) | ((first | apply SY.move | apply SY.assign | apply SY.lss | apply SY.gtr | apply SY.neq | apply SY.not) <;> (exact oD)) | fail); all_goals infer_instance)))); dsimp only [setD, z0, z1]) | (apply WC.condNB; (exact oD); all_goals (intro h; try exact xD)) | refine WC.skip ?_ | refine WC.ret ?_)); all_goals (first | ((repeat clear hK); (repeat clear Kx))))
    all_goals try (exfalso; first | contradiction | omega)
    (refine ⟨trivial, ⟨_, rfl, ?_⟩, _, rfl, ?_⟩ <;> (first | refine FinD.i ?_ | refine FinD.rowE (.head _) ?_))
    all_goals (rw [if_pos hle])
  · have hrf : r = false := by rw [hr]; exact decide_eq_false hle
    subst hrf
    ((repeat' (first | (apply WL.opN; exact yF; dsimp only [setD, z0, z1]) | refine WL.nil ?_ | refine WC.seqK fun Kx hK => ?_ | (refine hK _ _ ?_; clear hK) | refine WC.region ?_ | (apply WL.opG; (focus (first | exact wN | (apply SYG.yes; (exact wY); ((first | ((first | apply SY.move | apply SY.assign | apply SY.lss | apply SY.gtr | apply SY.neq | apply SY.not) <;> (exact oD)) | fail); all_goals infer_instance)))); dsimp only [setD, z0, z1]) | (apply WC.condNB; (exact oD); all_goals (intro h; try exact xD)) | refine WC.ret ?_ | refine ThenD.r ?_)); all_goals (first | ((repeat clear hK); (repeat clear Kx))))
    all_goals try (exfalso; first | contradiction | omega)
    (refine ⟨trivial, ⟨_, rfl, ?_⟩, _, rfl, ?_⟩ <;> (first | refine FinD.i ?_ | refine FinD.nilE ?_))
    all_goals (rw [if_neg hle])
end Go.Proofs.Ytpiidgcljlalmaa
