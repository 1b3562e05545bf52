/-
  Part 9 of the texts that the claims of this seat lean on: walks of the program's functions by contracts over symbolic frames, and plain laws of what they compute. No condition.
-/
import Derived.Sort.Grow
import Derived.Test.YtkedmlandjlogaaGreatVd6
import Derived.Test.YtkedmlandjlogaaGreatVd7
import Derived.Test.YtkedmlandjlogaaGreatVd8
set_option linter.unusedVariables false
set_option linter.unusedSimpArgs false
set_option linter.unusedSectionVars false
namespace Go.Proofs.YtkedmlandjlogaaGreat.M
open Go.RowKit

theorem nan_p (x : Int) : Fn Tryz.prog 230 [dI x] (dB false) := by
  (refine Fn.intro1 Tryz.func230 rfl rfl ?_; simp only [Tryz.ntmps230, List.length_cons, List.length_nil, Nat.reduceAdd, Nat.reduceSub, List.replicate_succ, List.replicate_zero, List.cons_append, List.nil_append])
  ((repeat' (first | (apply WL.opG; (focus (apply SYG.yes; (exact want_none rfl); (first | (apply SY.move <;> (exact oD)) | (apply SY.assign <;> (exact oD))))); dsimp only [setD, z0, z1]) | refine WL.nil ?_ | refine WC.seqK fun Kx hK => ?_ | (refine hK _ _ ?_; clear hK) | refine WC.region ?_ | (apply WL.opG; (focus (apply SYG.yes; (exact want_none rfl); ((first | ((first | apply SY.move | apply SY.assign | apply SY.neq) <;> (exact oD)) | fail); all_goals infer_instance))); dsimp only [setD, z0, z1]) | refine WC.ret ?_)); all_goals (first | refine WC.id ?_ | refine WL.id ?_ | refine WDs.id ?_ | ((repeat clear hK); (repeat clear Kx))))
  all_goals ((refine ⟨trivial, _, rfl, ?_⟩; (first | exact fD | refine FinD.i ?_ | refine FinD.b ?_ | refine FinD.rowKE (.head _) ?_ | refine FinD.rowE (.head _) ?_ | refine FinD.nilKE (by decide) ?_ | refine FinD.nilE ?_ | refine FinD.s ?_)); simp)
theorem cmpI_p (x y : Int) : Fn Tryz.prog 193 [dI x, dI y] (dI (cmpI x y)) := by
  (refine Fn.intro1 Tryz.func193 rfl rfl ?_; simp only [Tryz.ntmps193, List.length_cons, List.length_nil, Nat.reduceAdd, Nat.reduceSub, List.replicate_succ, List.replicate_zero, List.cons_append, List.nil_append])
  ((repeat' (first | (apply WL.opG; (focus (apply SYG.yes; (exact want_none rfl); (first | (apply SY.move <;> (exact oD)) | (apply SY.assign <;> (exact oD))))); dsimp only [setD, z0, z1]) | refine WL.nil ?_ | refine WC.seqK fun Kx hK => ?_ | (refine hK _ _ ?_; clear hK) | refine WC.region ?_ | (apply WL.opG; (focus (apply SYG.yes; (exact want_none rfl); ((first | (apply SY.call (nan_p _) Tryz.call230; (exact aD)) | ((first | apply SY.move | apply SY.assign | apply SY.lss | apply SY.gtr) <;> (exact oD)) | fail); all_goals infer_instance))); dsimp only [setD, z0, z1]) | (apply WC.condF; (exact oD); (with_reducible rfl)) | (apply WC.condD; (exact oD); (all_goals intro h); (all_goals try (exfalso; first | omega | contradiction))) | refine WC.skip ?_ | refine WC.ret ?_ | refine ThenD.r ?_)); all_goals (first | refine WC.id ?_ | refine WL.id ?_ | refine WDs.id ?_ | ((repeat clear hK); (repeat clear Kx))))
  all_goals ((refine ⟨trivial, _, rfl, ?_⟩; (first | exact fD | refine FinD.i ?_ | refine FinD.b ?_ | refine FinD.rowKE (.head _) ?_ | refine FinD.rowE (.head _) ?_ | refine FinD.nilKE (by decide) ?_ | refine FinD.nilE ?_ | refine FinD.s ?_)); unfold cmpI; simp [*])
  all_goals omega
theorem orI_p (l : List Int) : Fn Tryz.prog 192 [dS Ints l] (dI (orI l)) := by
  (refine Fn.intro1 Tryz.func192 rfl rfl ?_; simp only [Tryz.ntmps192, List.length_cons, List.length_nil, Nat.reduceAdd, Nat.reduceSub, List.replicate_succ, List.replicate_zero, List.cons_append, List.nil_append])
  ((repeat' (first | (apply WL.opG; (focus (apply SYG.yes; (exact want_none rfl); (first | (apply SY.move <;> (exact oD)) | (apply SY.assign <;> (exact oD)) | (apply SY.load; (exact tD); (exact OpD.t rfl))))); dsimp only [setD, z0, z1]) | refine WL.nil ?_ | refine WC.seqK fun Kx hK => ?_ | (refine hK _ _ ?_; clear hK) | refine WC.region ?_ | (apply WL.opG; (focus (apply SYG.yes; (exact want_none rfl); ((first | (apply SY.len; (exact oD); (first | exact len_K | exact len_A | exact len_nil); (exact uD)) | fail); all_goals infer_instance))); dsimp only [setD, z0, z1]) | refine WC.block ?_)); all_goals (first | refine WC.id ?_ | refine WL.id ?_ | refine WDs.id ?_ | ((repeat clear hK); (repeat clear Kx))))
  (first | refine WC.know (t := 0) rfl le_K fun hl0 => ?_ | refine WC.know (t := 0) rfl le_A fun hl0 => ?_ | refine WC.know (t := 0) rfl le_C fun hl0 => ?_); simp only [maxLen] at hl0
  (refine WC.loopU (X := Nat) (fun k => [(8, dI (k : Int)), (2, dA), (5, dA), (9, dA), (10, dA), (11, dA), (12, dA), (13, dA), (14, dA), (15, dA), (16, dA)]) (fun k => []) (fun k => l.length - k) (fun k => k ≤ l.length ∧ orI l = orI (l.drop k)) 0 ?start ?frame0 ?objs0 ?round)
  case start => exact ⟨Nat.zero_le _, rfl⟩
  case frame0 => ((try dsimp only [upds, z0, z1]); repeat (first | exact LeF.nil | refine LeF.cons (by first | with_reducible exact Dat.le_any _ | with_reducible exact Dat.le_refl _ | exact le_ii (by omega) | exact Dat.le_nil | exact Dat.le_nilK (by decide) | assumption | exact Dat.le_refl _ | exact le_eq (by simp)) ?_))
  case objs0 => rfl
  case round =>
    rintro k ⟨h1, h2⟩
    dsimp only [upds, z0, z1]
    ((repeat' (first | (apply WL.opG; (focus (apply SYG.yes; (exact want_none rfl); (first | (apply SY.move <;> (exact oD)) | (apply SY.assign <;> (exact oD)) | (apply SY.load; (exact tD); (exact OpD.t rfl))))); dsimp only [setD, z0, z1]) | refine WL.nil ?_ | refine WC.seqK fun Kx hK => ?_ | (refine hK _ _ ?_; clear hK) | (refine Kont.skip ?_; clear hK) | refine WC.region ?_ | (apply WL.opG; (focus (apply SYG.yes; (exact want_none rfl); ((first | ((first | apply SY.move | apply SY.assign | apply SY.lss | apply SY.neq) <;> (exact oD)) | ((first | apply SY.add) <;> first | exact oD | omega) | (apply SY.ix; (exact eD); (exact oD); (exact oD); (first | assumption | omega)) | fail); all_goals infer_instance))); dsimp only [setD, z0, z1]) | (apply WC.condD; (exact oD); (all_goals intro h); (all_goals try (exfalso; first | omega | contradiction))) | (apply WC.condN; (exact oD); (all_goals intro h); (all_goals try (exfalso; first | omega | contradiction))) | refine WC.skip ?_ | refine WC.ret ?_ | refine WC.exit ?_ | refine WC.block ?_ | refine ThenD.n ?_ | refine ThenD.r ?_ | refine InBlockD.r ?_)); all_goals (first | refine WC.id ?_ | refine WL.id ?_ | refine WDs.id ?_ | ((repeat clear hK); (repeat clear Kx))))
    · (refine ⟨trivial, _, rfl, ?_⟩; (first | exact fD | refine FinD.i ?_ | refine FinD.b ?_ | refine FinD.rowKE (.head _) ?_ | refine FinD.rowE (.head _) ?_ | refine FinD.nilKE (by decide) ?_ | refine FinD.nilE ?_ | refine FinD.s ?_))
      rw [h2, orI_drop (by omega), if_neg h]
    · (refine ⟨k + 1, ?_, by first | omega | (simp only; omega), rfl, ?_⟩; rotate_left; ((try dsimp only [upds, z0, z1]); repeat (first | exact LeF.nil | refine LeF.cons (by first | with_reducible exact Dat.le_any _ | with_reducible exact Dat.le_refl _ | exact le_ii (by omega) | exact Dat.le_nil | exact Dat.le_nilK (by decide) | assumption | exact Dat.le_refl _ | exact le_eq (by simp)) ?_)); (try dsimp only))
      exact ⟨by omega, by rw [h2, orI_drop (by omega), if_pos h]⟩
    · (refine ⟨trivial, _, rfl, ?_⟩; (first | exact fD | refine FinD.i ?_ | refine FinD.b ?_ | refine FinD.rowKE (.head _) ?_ | refine FinD.rowE (.head _) ?_ | refine FinD.nilKE (by decide) ?_ | refine FinD.nilE ?_ | refine FinD.s ?_))
      rw [h2, List.drop_of_length_le (by omega)]; rfl
theorem order_p (x y : Vx) : Fn Tryz.prog 151 [dS RV x, dS RV y] (dI (cmpV x y)) := by
  (refine Fn.intro1 Tryz.func151 rfl rfl ?_; simp only [Tryz.ntmps151, List.length_cons, List.length_nil, Nat.reduceAdd, Nat.reduceSub, List.replicate_succ, List.replicate_zero, List.cons_append, List.nil_append])
  ((repeat' (first | ((first | apply WL.opG | apply WD.op); (focus (apply SYG.yes; (exact want_none rfl); (first | (apply SY.assign <;> (exact oD)) | (apply SY.load; (exact tD); (exact OpD.t rfl))))); dsimp only [setD, z0, z1]) | refine WL.nil ?_ | refine WD.nil ?_ | refine WC.seqK fun Kx hK => ?_ | (refine hK _ _ ?_; clear hK) | refine WC.region ?_ | (apply WC.draw; kernel_rfl; kernel_rfl) | ((first | apply WL.opG | apply WD.op); (focus (apply SYG.yes; (exact want_none rfl); ((first | (apply SY.call (cmpI_p _ _) Tryz.call193; (exact aD)) | (apply SY.call (orI_p [_, _]) Tryz.call192; (exact aD)) | (first | (apply SY.fld0 vxT <;> (exact oD)) | (apply SY.fld1 vxT <;> (exact oD))) | (apply SY.build1'; (exact eD); ((try simp only [List.map_cons, List.map_nil]); (repeat (first | exact ElsD.nl | (apply ElsD.cn; (first | exact OpD.t rfl | exact OpD.i | exact OpD.b | exact OpD.tle rfl (by first | exact Dat.le_nil | exact Dat.le_nilK (by decide)) | exact ⟨Dat.le_nil⟩ | exact ⟨Dat.le_nilK (by decide)⟩))))); rfl; rfl; (intro _; first | exact shape_K | exact shape_I | exact shape_A | exact shape_B); (exact (by simp))) | (apply SY.box; (exact oD); (exact hD)) | fail); all_goals infer_instance))); dsimp only [setD, z0, z1]) | refine WC.ret ?_)); all_goals (first | refine WC.id ?_ | refine WL.id ?_ | refine WDs.id ?_ | ((repeat clear hK); (repeat clear Kx))))
  all_goals ((refine ⟨trivial, _, rfl, ?_⟩; (first | exact fD | refine FinD.i ?_ | refine FinD.b ?_ | refine FinD.rowKE (.head _) ?_ | refine FinD.rowE (.head _) ?_ | refine FinD.nilKE (by decide) ?_ | refine FinD.nilE ?_ | refine FinD.s ?_)); exact cmpV_or _ _)
theorem Ext.grow {w w' : World} (h : Ext w w') : ∃ q os', w' = Go.Sort.grow (w.drewN q) os' := by
  refine ⟨w'.drawn - w.drawn, w'.heap.extract w.heap.size w'.heap.size, ?_⟩
  have hd := h.d
  have hs := h.b.size
  have hh : w'.heap = w.heap ++ w'.heap.extract w.heap.size w'.heap.size := by
    apply Array.ext
    · simp; omega
    · intro i h1 h2
      by_cases hi : i < w.heap.size
      · have := h.b.block i hi
        rw [Array.getElem?_eq_getElem h1, Array.getElem?_eq_getElem hi] at this
        rw [Array.getElem_append_left hi]
        exact Option.some.inj this
      · rw [Array.getElem_append_right (by omega), Array.getElem_extract]
        congr 1
        omega
  unfold Go.Sort.grow World.drewN
  cases w'
  cases w
  simp only at hd hh
  have h1 := h.b.os; have h2 := h.b.tape; have h3 := h.b.output
  simp only at h1 h2 h3
  subst h1; subst h2; subst h3
  simp only [World.mk.injEq, true_and, and_true]
  exact ⟨hh, by omega⟩
theorem order_x (x y : Vx) (w : World) : Calls Tryz.prog 151 #[.agg #[.int .i64 x.1, .int .i64 x.2], .agg #[.int .i64 y.1, .int .i64 y.2]] w fun e w' => e = .returned (.int .i64 (cmpV x y)) ∧ ∃ q os', w' = Go.Sort.grow (w.drewN q) os' := by
  have := (order_p x y).out (fun _ => True) w [.agg #[.int .i64 x.1, .int .i64 x.2], .agg #[.int .i64 y.1, .int .i64 y.2]] rfl (fun i d hd => by
    match i with
    | 0 => cases hd; rfl
    | 1 => cases hd; rfl
    | i + 2 => simp at hd)
  exact this.mono fun e w' ⟨v, h1, h2, h3⟩ => ⟨by rw [h1]; exact congrArg _ h3, h2.grow⟩

end Go.Proofs.YtkedmlandjlogaaGreat.M
namespace Go.Proofs.YtkedmlandjlogaaGreat.M
open Go.RowKit
section
variable {P : Program} {ops : Array Oper} {hp : List HObj} {o : Oper} {fr : List Dat} {d : Dat} {Q : Post} {rest : List Oper}
variable {dst : Option Tmp} {ty : TypeId} {ps : String} {af : Array Edge} {g : Option (Nat × Bool)}
theorem WL.alloc {T : TypeId} {n : Nat} {agg : Bool} {z : Value} (hz : TyZ P T z) (hs : (dX z).Shape n agg)
    (h : ∀ b, WL P ops Q rest (setD fr dst (dX (.pointer (some ⟨b, 0, none⟩)))) (hCell b T n agg (dX z) :: hp)) : WL P ops Q ({ dst := dst, op := .alloc T, type := ty, pos := ps, after := af, guard := none } :: rest) fr hp := by
  refine WL.of fun P0 B w0 w a hh hf => ?_
  obtain ⟨cs, k1, k0, k2, k3, k4⟩ := hs (fun _ => True) w z rfl
  have hrun : (execOp a.eval { dst := dst, op := .alloc T, type := ty, pos := ps, after := af, guard := none }).run P w = .ok (.value (.pointer (some ⟨w.heap.size, 0, none⟩))) (w.alloc (.cells cs.toArray T)) := by
    cases hq : P.info? T with
    | none => have := hz.out; simp [hq] at this
    | some i =>
      have hz' : i.zero = some z := by have := hz.out; simpa [hq] using this
      unfold execOp
      simp [Instr.alloc, zeroValue, typeInfo, hq, hz', newVar, newRow, k3]
  refine wpList_value rfl hrun ?_
  have hx := Ext.of_alloc w (.cells cs.toArray T)
  have hb : ∀ k, (hCell w.heap.size T n agg (dX z)).blk = some k → w.heap.size ≤ k ∧ k < (w.alloc (.cells cs.toArray T)).heap.size := fun k hk => by
    cases hk
    exact ⟨Nat.le_refl _, by simp⟩
  refine (h w.heap.size).on ⟨hh.h.push hx.b hb ⟨cs, z, alloc_get w _, k1, k0, k2, k4, rfl⟩, hh.d⟩ ?_
  exact Fr.put (hf.mono fun d _ hd => Hp.pushed hx.b (fun k hk => (hb k hk).1) hd) rfl

theorem WL.storeK {x : Operand} {t b n : Nat} {T T2 : TypeId} {agg : Bool} {d0 : Dat} (hT : TyI P T n agg) (hp0 : OpD fr (.tmp t) (dX (.pointer (some ⟨b, 0, none⟩)))) (hx : OpD fr x d) (hs : d.Shape n agg)
    (h : WL P ops Q rest (setD fr dst (dX undef)) (hCell b T2 n agg d :: hp)) : WL P ops Q ({ dst := dst, op := .store T (.tmp t) x, type := ty, pos := ps, after := af, guard := none } :: rest) fr (hCell b T2 n agg d0 :: hp) := by
  refine WL.of fun P0 B w0 w a hh hf => ?_
  obtain ⟨cs, u, c1, c2, c0, c3, c4, c5⟩ := hh.h.ok (hCell b T2 n agg d0) (by simp)
  have h1 := hx.ev hf
  obtain ⟨cs', k1, k0, k2, k3, k4⟩ := hs _ _ _ h1
  have h2 : a.eval (.tmp t) = .pointer (some ⟨b, 0, none⟩) := hp0.ev hf
  have hr := run_storeC (u := a.eval x) hT.size c1 c2 k1 k2 k3
  have hrun : (execOp a.eval { dst := dst, op := .store T (.tmp t) x, type := ty, pos := ps, after := af, guard := none }).run P w = .ok .skip (w.setRow b cs'.toArray) := by
    unfold execOp
    simp only [h2, Sem.run_bind, hr, Result.andThen_ok, Sem.run_pure]
  refine wpList_plain rfl fun K hK => ?_
  unfold Oper.wp
  rw [hrun]
  have hgr : w.grownBy (w.setRow b cs'.toArray) (hCell b T2 n agg d0).blk := grown_setRow
  have hok : (hCell b T2 n agg d).ok (fun k => Imm P0 B (hCell b T2 n agg d0 :: hp) k ∧ k < w.heap.size) (w.setRow b cs'.toArray) :=
    ⟨cs', a.eval x, setRow_heap w b _ _ _ _ c1, k1, k0, k2, k4, d.grown (d.bound h1) hgr (fun k hk hc => hc.1.2 _ (by simp) hk)⟩
  exact hK _ _ (h.on ⟨hh.h.write hgr (.inl rfl) hok, hh.d⟩ (Fr.put (hf.mono fun _ _ hd => Hp.written (o' := hCell b T2 n agg d) hgr (.inl rfl) hd) (d := dX undef) rfl))
theorem WL.freeze {t b n : Nat} {T : TypeId} {agg : Bool} (hp0 : fr[t]? = some (dX (.pointer (some ⟨b, 0, none⟩)))) (h : WL P ops Q rest (fr.set t (dP n agg d)) hp) : WL P ops Q rest fr (hCell b T n agg d :: hp) := by
  refine WL.of fun P0 B w0 w a hh hf => ?_
  obtain ⟨cs, u, c1, c2, c0, c3, c4, c5⟩ := hh.h.ok (hCell b T n agg d) (by simp)
  have hown := hh.h.own (hCell b T n agg d) (by simp) b rfl
  refine h.on ⟨hh.h.drop, hh.d⟩ ⟨hf.defers, by rw [hf.size, List.length_set], fun t' d' hd' => ?_⟩
  by_cases htt : t = t'
  · subst htt
    rw [List.getElem?_set] at hd'
    simp only [if_true] at hd'
    split at hd'
    · cases hd'
      have hv : a.tmps.getD t undef = .pointer (some ⟨b, 0, none⟩) := hf.rd t _ hp0
      rw [hv]
      refine ⟨b, 0, u, rfl, cells_of_obj c1 c2 c0 c3 c4 ⟨.inr hown.1, fun o' ho' hk => ?_⟩, d.weak c5 Imm.sub⟩
      exact (List.pairwise_cons.1 hh.h.apart).1 o' ho' b rfl hk
    · cases hd'
  · rw [List.getElem?_set_ne htt] at hd'
    exact d'.weak (hf.rd t' d' hd') Imm.sub
theorem WL.storeF {x : Operand} {t b n : Nat} {T T2 : TypeId} {agg : Bool} {d0 : Dat} (hT : TyI P T n agg) (hp0 : fr[t]? = some (dX (.pointer (some ⟨b, 0, none⟩)))) (hx : OpD fr x d) (hs : d.Shape n agg)
    (h : WL P ops Q rest (fr.set t (dP n agg d)) hp) : WL P ops Q ({ dst := none, op := .store T (.tmp t) x, type := ty, pos := ps, after := af, guard := none } :: rest) fr (hCell b T2 n agg d0 :: hp) :=
  WL.storeK hT (OpD.t hp0) hx hs (WL.freeze hp0 h)
end
end Go.Proofs.YtkedmlandjlogaaGreat.M
namespace Go.Proofs.YtkedmlandjlogaaGreat
open Go.RowKit
set_option maxHeartbeats 2000000

theorem tyF : TyI Tryz.prog 129 1 false := ⟨by kernel_rfl, Tryz.isAgg129⟩
theorem tyFL : TyI Tryz.prog 41 1 false := ⟨by kernel_rfl, Tryz.isAgg41⟩
abbrev dPred (p : Vx → Bool) : Dat := dFun Tryz.prog (fun v => [dS RV v]) (fun v => dB (p v))
def idxG {α : Type} (p : α → Bool) : Nat → List α → Int
  | _, [] => -1
  | k, x :: l => if p x = true then (k : Int) else idxG p (k + 1) l
theorem idxG_drop {α : Type} {p : α → Bool} {l : List α} {k : Nat} (h : k < l.length) : idxG p k (l.drop k) = if p l[k] = true then (k : Int) else idxG p (k + 1) (l.drop (k + 1)) := by
  rw [List.drop_eq_getElem_cons h]; rfl
theorem idxG_iff {α : Type} {p : α → Bool} : ∀ (l : List α) (k : Nat), decide (0 ≤ idxG p k l) = l.any p
  | [], k => by simp [idxG]
  | x :: l, k => by
    unfold idxG
    rw [List.any_cons]
    split
    · rename_i h; rw [h]; simp
    · rename_i h; rw [idxG_iff l]; simp [h]
theorem idx_p (l : List Vx) (v : Vx) : Fn Tryz.prog 141 [dS Verts l, dS RV v] (dI (idxG (fun y => decide (v = y)) 0 l)) := by
  (refine Fn.intro1 Tryz.func141 rfl rfl ?_; simp only [Tryz.ntmps141, List.length_cons, List.length_nil, Nat.reduceAdd, Nat.reduceSub, List.replicate_succ, List.replicate_zero, List.cons_append, List.nil_append])
  ((repeat' (first | ((first | apply WL.opG | apply WD.op); (focus (apply SYG.yes; (exact want_none rfl); (first | (apply SY.move <;> (exact oD)) | (apply SY.assign <;> (exact oD)) | (apply SY.load; (exact tD); (exact OpD.t rfl))))); dsimp only [setD, z0, z1]) | refine WL.nil ?_ | refine WC.seqK fun Kx hK => ?_ | (refine hK _ _ ?_; clear hK) | refine WC.region ?_ | ((first | apply WL.opG | apply WD.op); (focus (apply SYG.yes; (exact want_none rfl); ((first | exact yLen | exact yBox | fail); all_goals infer_instance))); dsimp only [setD, z0, z1]) | refine WC.block ?_)); all_goals (first | refine WC.id ?_ | refine WL.id ?_ | refine WDs.id ?_ | ((repeat clear hK); (repeat clear Kx))))
  (first | refine WC.know (t := 0) rfl le_K fun hl0 => ?_ | refine WC.know (t := 0) rfl le_A fun hl0 => ?_ | refine WC.know (t := 0) rfl le_C fun hl0 => ?_); simp only [maxLen] at hl0
  (refine WC.loopU (X := Nat) (fun k => [(8, dI (k : Int)), (4, dA), (5, dA), (9, dA), (10, dA), (11, dA), (12, dA), (13, dA), (14, dA), (15, dA), (16, dA), (17, dA), (18, dA)]) (fun k => []) (fun k => l.length - k) (fun k => k ≤ l.length ∧ idxG (fun y => decide (v = y)) 0 l = idxG (fun y => decide (v = y)) k (l.drop k)) 0 ?start ?frame0 ?objs0 ?round)
  case start => exact ⟨Nat.zero_le _, rfl⟩
  case frame0 => ((try dsimp only [upds, z0, z1]); repeat (first | exact LeF.nil | refine LeF.cons (by first | with_reducible exact Dat.le_any _ | with_reducible exact Dat.le_refl _ | exact le_ii (by omega) | exact Dat.le_nil | exact Dat.le_nilK (by decide) | assumption | exact Dat.le_refl _ | exact le_eq (by simp)) ?_))
  case objs0 => rfl
  case round =>
    rintro k ⟨h1, h2⟩
    dsimp only [upds, z0, z1]
    ((repeat' (first | ((first | apply WL.opG | apply WD.op); (focus (apply SYG.yes; (exact want_none rfl); (first | (apply SY.move <;> (exact oD)) | (apply SY.assign <;> (exact oD)) | (apply SY.load; (exact tD); (exact OpD.t rfl))))); dsimp only [setD, z0, z1]) | refine WL.nil ?_ | refine WD.nil ?_ | refine WC.seqK fun Kx hK => ?_ | (refine hK _ _ ?_; clear hK) | (refine Kont.skip ?_; clear hK) | refine WC.region ?_ | (apply WC.draw; kernel_rfl; kernel_rfl) | ((first | apply WL.opG | apply WD.op); (focus (apply SYG.yes; (exact want_none rfl); ((first | exact yLss | exact yEql | exact yAdd | exact yIndexaddr | fail); all_goals infer_instance))); dsimp only [setD, z0, z1]) | (apply WC.condD; (exact oD); (all_goals intro h); (all_goals try (exfalso; first | omega | contradiction))) | refine WC.skip ?_ | refine WC.ret ?_ | refine WC.exit ?_ | refine WC.block ?_ | refine ThenD.n ?_ | refine ThenD.r ?_ | refine InBlockD.r ?_)); all_goals (first | refine WC.id ?_ | refine WL.id ?_ | refine WDs.id ?_ | ((repeat clear hK); (repeat clear Kx))))
    · (refine ⟨trivial, _, rfl, ?_⟩; (first | exact fD | refine FinD.i ?_ | refine FinD.b ?_ | refine FinD.rowKE (.head _) ?_ | refine FinD.rowE (.head _) ?_ | refine FinD.nilKE (by decide) ?_ | refine FinD.nilE ?_ | refine FinD.s ?_))
      rw [h2, idxG_drop (by omega), if_pos (by simpa using h)]
    · (refine ⟨k + 1, ?_, by first | omega | (simp only; omega), rfl, ?_⟩; rotate_left; ((try dsimp only [upds, z0, z1]); repeat (first | exact LeF.nil | refine LeF.cons (by first | with_reducible exact Dat.le_any _ | with_reducible exact Dat.le_refl _ | exact le_ii (by omega) | exact Dat.le_nil | exact Dat.le_nilK (by decide) | assumption | exact Dat.le_refl _ | exact le_eq (by simp)) ?_)); (try dsimp only))
      exact ⟨by omega, by rw [h2, idxG_drop (by omega), if_neg (by simpa using h)]⟩
    · (refine ⟨trivial, _, rfl, ?_⟩; (first | exact fD | refine FinD.i ?_ | refine FinD.b ?_ | refine FinD.rowKE (.head _) ?_ | refine FinD.rowE (.head _) ?_ | refine FinD.nilKE (by decide) ?_ | refine FinD.nilE ?_ | refine FinD.s ?_))
      rw [h2, List.drop_of_length_le (by omega)]; rfl
theorem cnt_p (l : List Vx) (v : Vx) : Fn Tryz.prog 73 [dS Verts l, dS RV v] (dB (decide (v ∈ l))) := by
  (refine Fn.intro1 Tryz.func73 rfl rfl ?_; simp only [Tryz.ntmps73, List.length_cons, List.length_nil, Nat.reduceAdd, Nat.reduceSub, List.replicate_succ, List.replicate_zero, List.cons_append, List.nil_append])
  ((repeat' (first | (apply WL.opG; (focus (apply SYG.yes; (exact want_none rfl); (first | (apply SY.move <;> (exact oD)) | (apply SY.assign <;> (exact oD)) | (apply SY.load; (exact tD); (exact OpD.t rfl))))); dsimp only [setD, z0, z1]) | refine WL.nil ?_ | refine WC.seqK fun Kx hK => ?_ | (refine hK _ _ ?_; clear hK) | refine WC.region ?_ | (apply WL.opG; (focus (apply SYG.yes; (exact want_none rfl); ((first | (apply SY.call (idx_p _ _) Tryz.call141; (exact aD)) | exact yGeq | exact yBox | fail); all_goals infer_instance))); dsimp only [setD, z0, z1]) | refine WC.ret ?_)); all_goals (first | refine WC.id ?_ | refine WL.id ?_ | refine WDs.id ?_ | ((repeat clear hK); (repeat clear Kx))))
  all_goals ((refine ⟨trivial, _, rfl, ?_⟩; (first | exact fD | refine FinD.i ?_ | refine FinD.b ?_ | refine FinD.rowKE (.head _) ?_ | refine FinD.rowE (.head _) ?_ | refine FinD.nilKE (by decide) ?_ | refine FinD.nilE ?_ | refine FinD.s ?_)); rw [idxG_iff])
  all_goals (rw [Bool.eq_iff_iff]; simp)
end Go.Proofs.YtkedmlandjlogaaGreat
namespace Go.Proofs.YtkedmlandjlogaaGreat
open Go.RowKit
set_option maxHeartbeats 2000000

abbrev dPredOn (s : List Vx) (p : Vx → Bool) : Dat := dFun Tryz.prog (fun v : {v : Vx // v ∈ s} => [dS RV v.1]) (fun v => dB (p v.1))
theorem le_predOn {s : List Vx} {p : Vx → Bool} : (dPred p).le (dPredOn s p) := fun _ _ _ ⟨f, cap, h1, h0, h2⟩ => ⟨f, cap, h1, h0, fun w' hw' x => h2 w' hw' x.1⟩
end Go.Proofs.YtkedmlandjlogaaGreat
