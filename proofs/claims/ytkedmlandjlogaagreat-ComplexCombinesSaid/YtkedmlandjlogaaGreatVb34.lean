/-
  Part 34 of the texts that the claims of this seat lean on: walks of the program's functions by contracts over symbolic frames, and plain laws of what they compute. No condition.
-/
import Derived.Test.YtkedmlandjlogaaGreatVb18
import Derived.Test.YtkedmlandjlogaaGreatVb22
import Derived.Test.YtkedmlandjlogaaGreatVb30
import Derived.Test.YtkedmlandjlogaaGreatVb33
set_option linter.unusedVariables false
set_option linter.unusedSimpArgs false
set_option linter.unusedSectionVars false
namespace Go.Proofs.YtkedmlandjlogaaGreat
open Go.RowKit
set_option linter.unusedSimpArgs false

set_option maxHeartbeats 2000000
set_option maxRecDepth 100000
theorem two27_c (a b : Cx) : Fn Tryz.prog 106 [dS Cpx a, dS Cpx b] (dI (twoC a b)) := by
  (refine Fn.intro1 Tryz.func106 rfl rfl ?_; simp only [Tryz.ntmps106, List.length_cons, List.length_nil, Nat.reduceAdd, Nat.reduceSub, List.replicate_succ, List.replicate_zero, List.cons_append, List.nil_append])
  ((repeat' (first | (apply WL.opG; (focus (apply SYG.yes; (exact want_none rfl); (first | (apply SY.move <;> (exact oD)) | (apply SY.assign <;> (exact oD)) | (apply SY.load; (exact tD); (exact OpD.t rfl))))); dsimp only [setD, z0, z1]) | refine WL.nil ?_ | refine WC.seqK fun Kx hK => ?_ | (refine hK _ _ ?_; clear hK) | refine WC.region ?_ | (apply WL.opG; (focus (apply SYG.yes; (exact want_none rfl); ((first | (apply SY.call (chk27_c _) Tryz.call28; (exact aD)) | ((first | apply SY.move | apply SY.assign | apply SY.neq) <;> (exact oD)) | (apply SY.box; (exact oD); (exact hD)) | fail); all_goals infer_instance))); dsimp only [setD, z0, z1]) | (apply WC.condN; (exact oD); (all_goals intro h); (all_goals try (exfalso; first | omega | contradiction))) | refine WC.skip ?_ | refine WC.ret ?_ | refine ThenD.r ?_)); all_goals (first | refine WC.id ?_ | refine WL.id ?_ | refine WDs.id ?_ | ((repeat clear hK); (repeat clear Kx))))
  all_goals ((refine ⟨trivial, _, rfl, ?_⟩; (first | exact fD | refine FinD.i ?_ | refine FinD.b ?_ | refine FinD.rowKE (.head _) ?_ | refine FinD.rowE (.head _) ?_ | refine FinD.nilKE (by decide) ?_ | refine FinD.nilE ?_ | refine FinD.s ?_)) <;> ((unfold twoC; (repeat' split)) <;> (first | rfl | (exfalso; first | contradiction | omega) | (simp_all; done))))
theorem ptsC_take {l : Cx} (h : ∀ s ∈ l, s.length ≤ 8) (k : Nat) : (ptsC (l.take k)).length ≤ 8 * k := by
  have h1 := flat_len (l := l.take k) fun s hs => h s (List.mem_of_mem_take hs)
  have h2 := (allV_len (l.take k).flatten []).2
  have h3 : (l.take k).length ≤ k := List.length_take_le _ _
  unfold ptsC
  simp only [List.length_nil] at h2
  omega
theorem points27_c (l : Cx) (h8 : ∀ s ∈ l, s.length ≤ 8) (hl : l.length ≤ 100) : Fn Tryz.prog 98 [dS Cpx l] (dS Verts (ptsC l)) := by
  (refine Fn.intro1 Tryz.func98 rfl rfl ?_; simp only [Tryz.ntmps98, List.length_cons, List.length_nil, Nat.reduceAdd, Nat.reduceSub, List.replicate_succ, List.replicate_zero, List.cons_append, List.nil_append])
  ((repeat' (first | (apply WL.opG; (focus (apply SYG.yes; (exact want_none rfl); (first | (apply SY.move <;> (exact oD)) | (apply SY.assign <;> (exact oD)) | (apply SY.load; (exact tD); (exact OpD.t rfl))))); dsimp only [setD, z0, z1]) | refine WL.nil ?_ | refine WC.seqK fun Kx hK => ?_ | (refine hK _ _ ?_; clear hK) | refine WC.region ?_ | (apply WL.opG; (focus (apply SYG.yes; (exact want_none rfl); ((first | (apply SY.box; (exact oD); (exact hD)) | fail); all_goals infer_instance))); dsimp only [setD, z0, z1]) | refine WC.block ?_)); all_goals (first | refine WC.id ?_ | refine WL.id ?_ | refine WDs.id ?_ | ((repeat clear hK); (repeat clear Kx))))
  (refine WC.loopU (X := Nat) (fun k => [(4, dI (k : Int)), (3, dS Verts (ptsC (l.take k))), (5, dA), (6, dA), (7, dA), (8, dA), (9, dA), (10, dA), (11, dA), (12, dA), (13, dA), (14, dA), (15, dA), (16, dA), (17, dA), (18, dA)]) (fun k => []) (fun k => l.length - k) (fun k => k ≤ l.length) 0 ?start ?frame0 ?objs0 ?round)
  case start => exact Nat.zero_le _
  case frame0 => ((try dsimp only [upds, z0, z1]); repeat (first | exact LeF.nil | refine LeF.cons (by first | with_reducible exact Dat.le_any _ | with_reducible exact Dat.le_refl _ | exact le_ii (by omega) | exact Dat.le_nil | exact Dat.le_nilK (by decide) | assumption | exact Dat.le_refl _ | exact le_eq (by simp)) ?_))
  case objs0 => rfl
  case round =>
    rintro k h1
    have hp := ptsC_take h8 k
    dsimp only [upds, z0, z1]
    by_cases hk : k < l.length
    · have c1 := both_c (ptsC (l.take k)) l[k] (by omega) (by have := h8 _ (List.getElem_mem hk); omega)
      rw [← ptsC_snoc hk] at c1
      ((repeat' (first | (apply WL.opG; (focus (apply SYG.yes; (exact want_none rfl); (first | (apply SY.move <;> (exact oD)) | (apply SY.assign <;> (exact oD)) | (apply SY.load; (exact tD); (exact OpD.t rfl))))); dsimp only [setD, z0, z1]) | refine WL.nil ?_ | refine WC.seqK fun Kx hK => ?_ | (refine hK _ _ ?_; clear hK) | refine WC.region ?_ | (apply WL.opG; (focus (apply SYG.yes; (exact want_none rfl); ((first | (apply SY.call (c1) Tryz.call109; (exact aD)) | ((first | apply SY.move | apply SY.assign | apply SY.lss) <;> (exact oD)) | ((first | apply SY.add) <;> first | exact oD | omega) | (apply SY.len; (exact oD); (first | exact len_K | exact len_A | exact len_nil); (first | exact uD | exact elC.unt)) | (apply SY.ix; (first | exact eD | exact elC); (exact oD); (exact oD); (first | assumption | omega)) | (apply SY.fldC cpxT; exact OpD.t rfl) | fail); all_goals infer_instance))); dsimp only [setD, z0, z1]) | (apply WC.condD; (exact oD); (all_goals intro h); (all_goals try (exfalso; first | omega | contradiction))) | refine WC.skip ?_ | refine WC.block ?_ | refine ThenD.n ?_)); all_goals (first | refine WC.id ?_ | refine WL.id ?_ | refine WDs.id ?_ | ((repeat clear hK); (repeat clear Kx))))
      (refine ⟨k + 1, ?_, by first | omega | (simp only; omega), rfl, ?_⟩; rotate_left; ((try dsimp only [upds, z0, z1]); repeat (first | exact LeF.nil | refine LeF.cons (by first | with_reducible exact Dat.le_any _ | with_reducible exact Dat.le_refl _ | exact le_ii (by omega) | exact Dat.le_nil | exact Dat.le_nilK (by decide) | assumption | exact Dat.le_refl _ | exact le_eq (by simp)) ?_)); (try dsimp only))
      omega
    · ((repeat' (first | (apply WL.opG; (focus (apply SYG.yes; (exact want_none rfl); (first | (apply SY.move <;> (exact oD)) | (apply SY.assign <;> (exact oD)) | (apply SY.load; (exact tD); (exact OpD.t rfl))))); dsimp only [setD, z0, z1]) | refine WL.nil ?_ | refine WC.seqK fun Kx hK => ?_ | (refine hK _ _ ?_; clear hK) | (refine Kont.skip ?_; clear hK) | refine WC.region ?_ | (apply WL.opG; (focus (apply SYG.yes; (exact want_none rfl); ((first | ((first | apply SY.move | apply SY.assign | apply SY.lss) <;> (exact oD)) | (apply SY.len; (exact oD); (first | exact len_K | exact len_A | exact len_nil); (first | exact uD | exact elC.unt)) | (apply SY.fldC cpxT; exact OpD.t rfl) | fail); all_goals infer_instance))); dsimp only [setD, z0, z1]) | (apply WC.condD; (exact oD); (all_goals intro h); (all_goals try (exfalso; first | omega | contradiction))) | refine WC.ret ?_ | refine WC.exit ?_)); all_goals (first | refine WC.id ?_ | refine WL.id ?_ | refine WDs.id ?_ | ((repeat clear hK); (repeat clear Kx))))
      rw [List.take_of_length_le (by omega)]
      (refine ⟨trivial, _, rfl, ?_⟩; (first | exact fD | refine FinD.i ?_ | refine FinD.b ?_ | refine FinD.rowKE (.head _) ?_ | refine FinD.rowE (.head _) ?_ | refine FinD.nilKE (by decide) ?_ | refine FinD.nilE ?_ | refine FinD.s ?_))
end Go.Proofs.YtkedmlandjlogaaGreat
namespace Go.Proofs.YtkedmlandjlogaaGreat
open Go.RowKit
section
variable {P : Program} {ops : Array Oper} {hp : List HObj} {fr : List Dat} {Q : Post} {rest : List Oper} {c : Code} {d : Dat} {α : Type} {R : Rel α} {e : TypeId}
theorem WC.freeze {_gR : Good R} {v : Value} {xs : List α} (h : WC P Q c fr (hKnow v (dS (Arr R) xs) :: hp)) : WC P Q c fr (hRow v e R xs :: hp) := WC.of fun P0 B w0 w a hh hf => by
  have hg : (hKnow v (dS (Arr R) xs)).blk = none := rfl
  have hd : (dS (Arr R) xs).rd (Imm P0 B hp) w v := Own.keep hh
  exact h.on (Hp.ghost (l := []) hg hh.drop hd) (hf.mono fun d u hd => d.weak hd fun k hk => (imm_ghost hg [] k).2 (Imm.sub k hk))
theorem WL.use {v : Value} (t : Nat) (ht : fr[t]? = some (dX v)) (hm : hKnow v d ∈ hp) (h : WL P ops Q rest (fr.set t d) hp) : WL P ops Q rest fr hp := WL.of fun P0 B w0 w a hh hf => by
  refine h.on hh ⟨hf.defers, by rw [hf.size, List.length_set], fun t' d' hd' => ?_⟩
  by_cases htt : t = t'
  · subst htt
    rw [List.getElem?_set] at hd'
    simp only [if_true] at hd'
    split at hd'
    · cases hd'
      have h1 : a.tmps.getD t undef = v := hf.rd t _ ht
      rw [h1]
      exact hh.ok _ hm
    · cases hd'
  · rw [List.getElem?_set_ne htt] at hd'
    exact hf.rd t' d' hd'
structure CapH (hp : List HObj) (v : Value) (d : Dat) : Prop where
  out : ∀ {P0 : Nat → Prop} {B : Nat} {w0 w : World}, Hp P0 B w0 hp w → d.rd anyB w v
theorem CapH.map {K V : Type} {kv : K → Value} {vv : V → Value} {R : Rel V} [Good R] {M : List (K × V)} {b m : Nat} {T : TypeId} (h1 : hCell b T 1 false (dX (.map (some m))) ∈ hp) (h2 : hM m kv vv M ∈ hp) (hvv : ∀ I w (y : V), R I w (vv y) y) :
    CapH hp (.pointer (some ⟨b, 0, none⟩)) (dP 1 false (dS (MapR kv R) M)) := CapH.mk fun {P0 B w0 w} hh => by
  obtain ⟨cs, u, c1, c2, c0, c3, c4, c5⟩ := hh.ok _ h1
  have hu : u = .map (some m) := c5
  have hb : w.heap[m]? = some (mapObj _) := hh.ok _ h2
  refine ⟨b, 0, u, rfl, cells_of_obj c1 c2 c0 c3 c4 trivial, m, M.map fun p => vv p.2, hu, trivial, by simp, ?_, fun k q1 q2 => ?_⟩
  · rw [hb]
    congr 2
    unfold encM
    rw [List.zip_map', List.map_map]
    rfl
  · simp only [List.getElem_map]
    exact hvv _ _ _
end
end Go.Proofs.YtkedmlandjlogaaGreat
namespace Go.Proofs.YtkedmlandjlogaaGreat
open Go.RowKit
section
variable {P : Program} {ops : Array Oper} {hp : List HObj} {fr : List Dat} {dst : Option Tmp} {ty : TypeId} {ps : String} {af : Array Edge} {t e : TypeId} {z : Value} {bytes : Nat} {ag : Bool}
theorem SW.app1 {s y : Operand} (E : ElT P t e 1 z bytes ag) {α : Type} {R : Rel α} {_gR : Good R} {v : Value} {xs ys : List α} (hs : OpD fr s (dX v)) (hy : OpD fr y (dS (Arr R) ys)) (hby : 0 < bytes)
    (hlen : (xs.length + ys.length) * bytes ≤ 140737488355328) :
    SW P ops (hRow v e R xs :: hp) (fun v' : Value => hRow v' e R (xs ++ ys) :: hp) (fun v' => dX v') { dst := dst, op := .call { callee := .builtin .append, args := #[s, y], argTypes := #[t, t] }, type := ty, pos := ps, after := af, guard := none } fr := ⟨rfl, fun {P0 B w0 w a} hh ho K Q hk => by
  obtain ⟨ad, cap, hv, c1, c2, c3⟩ := (hy.get (by simp [Op.operands, Call.operands]) ho : Arr R _ _ _ _)
  have hm : xs.length + ys.length ≤ maxLen := by
    have : (xs.length + ys.length) * 1 ≤ (xs.length + ys.length) * bytes := Nat.mul_le_mul_left _ hby
    simp only [maxLen]; omega
  have hse : a.eval s = v := hs.get (by simp [Op.operands, Call.operands]) ho
  cases ad with
  | none =>
    have hy0 : ys = [] := by
      cases ys with
      | nil => rfl
      | cons y ys => obtain ⟨_, _, _, _, _, hc, _⟩ := c3 0 (by simp); cases hc
    subst hy0
    obtain ⟨us, _, hown, _⟩ := hh.ok (hRow v e R xs) (by simp)
    have hrun : (execOp a.eval { dst := dst, op := .call { callee := .builtin .append, args := #[s, y], argTypes := #[t, t] }, type := ty, pos := ps, after := af, guard := none }).run P w = .ok (.value v) w := by
      have hr := run_append_none (P := P) (ty := ty) (w := w) E hown cap
      have hv' : a.eval y = .slice none 0 cap := hv
      unfold execOp
      simp only [resolve, invoke, builtin, List.map_toArray, List.map_cons, List.map_nil, hse, hv', Sem.run_bind, Sem.run_pure, Result.andThen_ok]
      rw [hr]
      simp
    unfold Oper.wp
    rw [hrun]
    have := hk v v w
    simp only [List.append_nil] at this
    exact this hh (fun _ _ h => h) rfl
  | some ad =>
    have hch : ∀ k : Nat, ∃ u : Value, ∀ h : k < ys.length, w.cell? (ad.add k) = some u ∧ u.oneCell' = true ∧ R (Imm P0 B (hRow v e R xs :: hp)) w u ys[k] := fun k => by
      by_cases hk : k < ys.length
      · obtain ⟨u, b, off, r1, r2, r3, r4, r5⟩ := c3 k hk
        cases r3
        exact ⟨u, fun _ => ⟨by rw [Addr.add_lit]; exact r5, r2, r1⟩⟩
      · exact ⟨undef, fun h => absurd h hk⟩
    obtain ⟨f, hfch⟩ := Classical.axiomOfChoice hch
    obtain ⟨v', w', hr, r1, r2, r3⟩ := app1_step (ty := ty) E hh (ad := ad) (c := cap) (ys := ys) (news := (List.range ys.length).map f) (by simp) (fun j u hu => by
        obtain ⟨hjl, hju⟩ := List.getElem?_eq_some_iff.1 hu
        simp at hjl hju
        subst hju
        exact (hfch j hjl).1) (fun u hu => by
        simp only [List.mem_map, List.mem_range] at hu
        obtain ⟨j, hj, rfl⟩ := hu
        exact (hfch j hj).2.1) (fun k h1 h2 => by
        simp only [List.getElem_map, List.getElem_range]
        exact (hfch k h2).2.2) hlen hm
    have hrun : (execOp a.eval { dst := dst, op := .call { callee := .builtin .append, args := #[s, y], argTypes := #[t, t] }, type := ty, pos := ps, after := af, guard := none }).run P w = .ok (.value v') w' := by
      unfold execOp
      simp only [resolve, invoke, builtin, List.map_toArray, List.map_cons, List.map_nil, hse, hv, Sem.run_bind, Sem.run_pure, Result.andThen_ok, hr]
    unfold Oper.wp
    rw [hrun]
    exact hk v' v' w' r1 (fun d u hd => Hp.written (o := hRow v e R xs) (o' := hRow v' e R (xs ++ ys)) r2 r3 hd) rfl⟩
theorem SW.build0 (E : ElT P t e 1 z bytes ag) {α : Type} (R : Rel α) [Good R] : SW P ops hp (fun v : Value => hRow v e R ([] : List α) :: hp) (fun v => dX v) { dst := dst, op := .buildSlice t 0 #[], type := ty, pos := ps, after := af, guard := none } fr := ⟨rfl, fun {P0 B w0 w a} hh ho K Q hk => by
  have hb := run_buildN (w := w) E (us := []) (css := []) rfl (fun i u cs' hu hcs => by simp at hu) (by simp)
  have hrun : (execOp a.eval { dst := dst, op := .buildSlice t 0 #[], type := ty, pos := ps, after := af, guard := none }).run P w = .ok (.value (.slice (some ⟨w.heap.size, 0, none⟩) 0 0)) (w.alloc (.cells #[] e)) := by
    unfold execOp
    have : (Instr.buildSlice t 0 #[]).run P w = .ok (.slice (some ⟨w.heap.size, 0, none⟩) 0 0) (w.alloc (.cells #[] e)) := hb
    simp [this, Result.andThen]
  unfold Oper.wp
  rw [hrun]
  have hx := Ext.of_alloc w (.cells #[] e)
  have hbk : ∀ k, (hRow (.slice (some ⟨w.heap.size, 0, none⟩) 0 0) e R ([] : List α)).blk = some k → w.heap.size ≤ k ∧ k < (w.alloc (.cells #[] e)).heap.size := fun k hk => by
    cases hk
    exact ⟨Nat.le_refl _, by simp⟩
  refine hk (.slice (some ⟨w.heap.size, 0, none⟩) 0 0) _ _ (hh.push hx hbk ?_) (fun d u hd => Hp.pushed hx (fun k hk => (hbk k hk).1) hd) rfl
  exact ⟨[], rfl, ⟨by simp, .inr ⟨w.heap.size, 0, #[], rfl, Nat.zero_le _, alloc_get w _, by simp, by simp [maxLen], by simp, by simp⟩⟩, fun k h => absurd h (Nat.not_lt_zero k)⟩⟩
end
end Go.Proofs.YtkedmlandjlogaaGreat
