/-
  Part 19 of the texts that the claims of this seat lean on: walks of the program's functions by contracts over symbolic frames, and plain laws of what they compute. No condition.
-/
import Derived.Ground.Names8Prog
import Derived.Shelf.Spec.SlicesGrow
import Derived.Test.YtkedmlandjlogaaGreatProg
import Derived.Test.YtkedmlandjlogaaGreatVc8
import Derived.Test.YtkedmlandjlogaaGreatVc13
import Derived.Test.YtkedmlandjlogaaGreatVc17
import Derived.Test.YtkedmlandjlogaaGreatVc18
set_option linter.unusedVariables false
set_option linter.unusedSimpArgs false
set_option linter.unusedSectionVars false
namespace Go.Proofs
open Go.Shelf
def Tryz.growV_ren : Go.Shelf.Ren := ⟨fun | 4 => 160 | n => n, fun | 22 => 32 | 25 => 37 | 3 => 3 | 4 => 4 | 9 => 9 | 20 => 20 | 0 => 0 | 2 => 3 | n => n, fun | n => n⟩
theorem Tryz.growV : Go.Proofs.Lays8.n4 Tryz.prog Tryz.growV_ren := {
  mixed := by kernel_rfl
  f4 := ⟨Tryz.f160.name, by decide, Tryz.func160.trans (congrArg some (by kernel_rfl))⟩
  t0 := Tryz.underlying0
  a0 := Tryz.isAgg0
  z0 := Tryz.sizeOf0
  v0 := Tryz.zeroValue0
  t3 := Tryz.underlying3
  a3 := Tryz.isAgg3
  z3 := Tryz.sizeOf3
  v3 := Tryz.zeroValue3
  t4 := Tryz.underlying4
  a4 := Tryz.isAgg4
  z4 := Tryz.sizeOf4
  v4 := Tryz.zeroValue4
  t9 := Tryz.underlying9
  a9 := Tryz.isAgg9
  z9 := Tryz.sizeOf9
  v9 := Tryz.zeroValue9
  t20 := Tryz.underlying20
  a20 := Tryz.isAgg20
  z20 := Tryz.sizeOf20
  v20 := Tryz.zeroValue20
  t22 := Tryz.underlying32
  a22 := Tryz.isAgg32
  z22 := Tryz.sizeOf32
  v22 := Tryz.zeroValue32 }
end Go.Proofs
namespace Go.Proofs.YtkedmlandjlogaaGreat
open Go.RowKit
set_option maxHeartbeats 2000000
set_option linter.unusedSimpArgs false

section
variable {ops : Array Oper} {hp : List HObj} {fr : List Dat} {Q : Post} {rest : List Oper} {dst : Option Tmp} {ty : TypeId} {ps : String} {af : Array Edge}
theorem WL.growV {x : Operand} {n : Nat} {ats : Array TypeId} (hx : OpD fr x (dI (n : Int))) (h0 : 0 < n) (hn : n ≤ 1000)
    (h : ∀ v : Value, WL Tryz.prog ops Q rest (setD fr dst (dX v)) (hRowK v 37 2 RV ([] : List Vx) :: hp)) :
    WL Tryz.prog ops Q ({ dst := dst, op := .call { callee := .value (.func 160), args := #[.const (.slice none 0 0), x], argTypes := ats }, type := ty, pos := ps, after := af, guard := none } :: rest) fr hp := by
  refine WL.of fun P0 B w0 w a hh hf => ?_
  obtain ⟨i, hi', hz, hs, hb⟩ := info_parts elV.info
  have hcon := Any8.slices_Grow_grow Tryz.growV i _ hi' hz (by omega) none 0 0 n [] w (Nat.le_refl _) (by omega) (by rw [hb]; omega) (by omega) (by simp) (fun _ => rfl) (by simp)
  change Calls Tryz.prog 160 _ _ _ at hcon
  have hev : a.eval x = .int .i64 (n : Int) := hx.ev hf
  have hrun : (execOp a.eval { dst := dst, op := .call { callee := .value (.func 160), args := #[.const (.slice none 0 0), x], argTypes := ats }, type := ty, pos := ps, after := af, guard := none }).run Tryz.prog w = .ok (.enter 160 #[.slice none 0 0, .int .i64 n]) w := by
    unfold execOp
    simp only [resolve]
    have he : (#[Operand.const (.slice none 0 0), x] : Array Operand).map a.eval = #[.slice none 0 0, .int .i64 n] := by simp [hev]; rfl
    rw [he]
    simp [Act.eval, Deferred.ofValue, invoke, Tryz.call160]
  refine wpList_plain rfl fun K hK => ?_
  unfold Oper.wp
  rw [hrun]
  refine hcon.mono fun e' w' ⟨he, hw'⟩ => ?_
  subst he
  subst hw'
  have hge := grownCap_ge w (0 + n) 0 37
  have hle := grownCap_le_maxLen w (0 + n) 0 37 (by unfold maxLen; omega)
  have hG : grownCap w (0 + n) 0 (Tryz.growV_ren.t 25) = grownCap w (0 + n) 0 37 := rfl
  rw [hG]
  generalize grownCap w (0 + n) 0 37 = G at hge hle
  have hx2 : Ext w (w.drew.alloc (.cells (([] : List Value).toArray ++ Builtin.zeroCells (Value.agg #[.int .i64 0, .int .i64 0]).cells (0 + n - 0) ++ Builtin.zeroCells (Value.agg #[.int .i64 0, .int .i64 0]).cells (G - (0 + n))) (Tryz.growV_ren.t 25))) := (Ext.refl w).drew.alloc _
  have hb2 : ∀ k, (hRowK (.slice (some ⟨w.heap.size, 0, none⟩) 0 G) 37 2 RV ([] : List Vx)).blk = some k → w.heap.size ≤ k ∧ k < (w.drew.alloc (.cells (([] : List Value).toArray ++ Builtin.zeroCells (Value.agg #[.int .i64 0, .int .i64 0]).cells (0 + n - 0) ++ Builtin.zeroCells (Value.agg #[.int .i64 0, .int .i64 0]).cells (G - (0 + n))) (Tryz.growV_ren.t 25))).heap.size := fun k hk => by
    cases hk
    exact ⟨Nat.le_refl _, by rw [World.size_alloc]; exact Nat.lt_succ_self _⟩
  refine hK _ _ ((h (.slice (some ⟨w.heap.size, 0, none⟩) 0 G)).on (hh.push hx2 hb2 ?_) (Fr.put (hf.mono fun d _ hd => Hp.pushed hx2 (fun k hk => (hb2 k hk).1) hd) rfl))
  refine hV_row.2 ⟨rfl, (([] : List Value).toArray ++ Builtin.zeroCells (Value.agg #[.int .i64 0, .int .i64 0]).cells (0 + n - 0) ++ Builtin.zeroCells (Value.agg #[.int .i64 0, .int .i64 0]).cells (G - (0 + n))).toList, ?_, by simp, by omega, ?_⟩
  · have := alloc_get w.drew (.cells (([] : List Value).toArray ++ Builtin.zeroCells (Value.agg #[.int .i64 0, .int .i64 0]).cells (0 + n - 0) ++ Builtin.zeroCells (Value.agg #[.int .i64 0, .int .i64 0]).cells (G - (0 + n))) (Tryz.growV_ren.t 25))
    rw [flatV_nil, List.nil_append, Array.toArray_toList]
    exact this
  · rw [flatV_nil, List.nil_append]
    simp [Builtin.zeroCells, Value.cells]
    omega
end
set_option maxHeartbeats 4000000 in
theorem concat_p (ss : List (List Vx)) (h0 : 0 < ss.flatten.length) (hl : ss.flatten.length ≤ 1000) : Fn Tryz.prog 103 [dS Simps ss] (dS Verts ss.flatten) := by
  have hstep : ∀ (k : Nat) (hk : k < ss.length), (ss.take (k + 1)).flatten = (ss.take k).flatten ++ ss[k] := fun k hk => by rw [take_snoc' hk, List.flatten_append]; simp
  have hle : ∀ k : Nat, (ss.take k).flatten.length ≤ ss.flatten.length := fun k => by
    conv => rhs; rw [← List.take_append_drop k ss]
    rw [List.flatten_append, List.length_append]; omega
  (refine Fn.intro1 Tryz.func103 rfl rfl ?_; simp only [Tryz.ntmps103, List.length_cons, List.length_nil, Nat.reduceAdd, Nat.reduceSub, List.replicate_succ, List.replicate_zero, List.cons_append, List.nil_append])
  ((repeat' (first | (apply WL.opG; (focus (apply SYG.yes; (exact want_none rfl); (first | (apply SY.move <;> (exact oD)) | (apply SY.assign <;> (exact oD)) | (apply SY.load; (exact tD); (exact OpD.t rfl))))); dsimp only [setD, z0, z1]) | refine WL.nil ?_ | refine WC.seqK fun Kx hK => ?_ | (refine hK _ _ ?_; clear hK) | refine WC.region ?_ | (apply WL.opG; (focus (apply SYG.yes; (exact want_none rfl); ((first | exact yLen | fail); all_goals infer_instance))); dsimp only [setD, z0, z1]) | refine WC.block ?_)); all_goals (first | refine WC.id ?_ | refine WL.id ?_ | refine WDs.id ?_ | ((repeat clear hK); (repeat clear Kx))))
  (first | refine WC.know (t := 0) rfl le_K fun hl0 => ?_ | refine WC.know (t := 0) rfl le_A fun hl0 => ?_ | refine WC.know (t := 0) rfl le_C fun hl0 => ?_); simp only [maxLen] at hl0
  (refine WC.loopU (X := Nat) (fun k => [(3, dI ((ss.take k).flatten.length : Int)), (11, dI (k : Int)), (5, dA), (12, dA), (13, dA), (14, dA), (15, dA), (16, dA), (17, dA), (18, dA), (19, dA), (20, dA), (21, dA), (22, dA)]) (fun k => []) (fun k => ss.length - k) (fun k => k ≤ ss.length) 0 ?start ?frame0 ?objs0 ?round)
  case start => simp
  case frame0 => ((try dsimp only [upds, z0, z1]); repeat (first | exact LeF.nil | refine LeF.cons (by first | with_reducible exact Dat.le_any _ | with_reducible exact Dat.le_refl _ | exact le_ii (by omega) | exact Dat.le_nil | exact Dat.le_nilK (by decide) | assumption | exact Dat.le_refl _ | exact le_eq (by simp)) ?_))
  case objs0 => rfl
  case round =>
    rintro k h1
    dsimp only [upds, z0, z1]
    have hk1 := hle k
    ((repeat' (first | (apply WL.opG; (focus (apply SYG.yes; (exact want_none rfl); (first | (apply SY.move <;> (exact oD)) | (apply SY.assign <;> (exact oD)) | (apply SY.load; (exact tD); (exact OpD.t rfl))))); dsimp only [setD, z0, z1]) | refine WL.nil ?_ | refine WC.seqK fun Kx hK => ?_ | (refine hK _ _ ?_; clear hK) | (refine Kont.skip ?_; clear hK) | refine WC.region ?_ |  (apply WL.growV; exact OpD.t rfl; (rw [List.take_of_length_le (by omega)]; omega); omega; intro vg; dsimp only [setD, z0, z1]) | (apply WL.opG; (focus (apply SYG.yes; (exact want_none rfl); ((first | (apply SY.add; exact OpD.t rfl; exact OpD.t rfl; (have := hstep k (by omega); have h7 := hle (k + 1); rw [this, List.length_append] at h7; omega)) | exact yLss | exact yAdd | exact yLen | exact yIndexaddr | fail); all_goals infer_instance))); dsimp only [setD, z0, z1]) | (apply WC.condD; (exact oD); (all_goals intro h); (all_goals try (exfalso; first | omega | contradiction))) | refine WC.skip ?_ | refine WC.exit ?_ | refine WC.block ?_ | refine ThenD.n ?_)); all_goals (first | refine WC.id ?_ | refine WL.id ?_ | refine WDs.id ?_ | ((repeat clear hK); (repeat clear Kx))))
    · have h5 := hstep k (by omega)
      have h6 : ((ss.take (k + 1)).flatten.length : Int) = (ss.take k).flatten.length + (ss[k]'(by omega)).length := by rw [h5, List.length_append]; rfl
      rw [← h6]
      (refine ⟨k + 1, ?_, by first | omega | (simp only; omega), rfl, ?_⟩; rotate_left; ((try dsimp only [upds, z0, z1]); repeat (first | exact LeF.nil | refine LeF.cons (by first | with_reducible exact Dat.le_any _ | with_reducible exact Dat.le_refl _ | exact le_ii (by omega) | exact Dat.le_nil | exact Dat.le_nilK (by decide) | assumption | exact Dat.le_refl _ | exact le_eq (by simp)) ?_)); (try dsimp only))
      omega
    · (refine WC.loopU (X := Nat × Value) (fun x => [(6, dX x.2), (27, dI (x.1 : Int)), (8, dA), (28, dA), (29, dA), (30, dA), (31, dA), (32, dA), (33, dA), (34, dA)]) (fun x => [hRowK x.2 37 2 RV ((ss.take x.1).flatten)]) (fun x => ss.length - x.1) (fun x => x.1 ≤ ss.length) (0, vg) ?start ?frame0 ?objs0 ?round)
      case start => simp
      case frame0 => ((try dsimp only [upds, z0, z1]); repeat (first | exact LeF.nil | refine LeF.cons (by first | with_reducible exact Dat.le_any _ | with_reducible exact Dat.le_refl _ | exact le_ii (by omega) | exact Dat.le_nil | exact Dat.le_nilK (by decide) | assumption | exact Dat.le_refl _ | exact le_eq (by simp)) ?_))
      case objs0 => rfl
      case round =>
        rintro ⟨j, u⟩ q1
        dsimp only [upds, z0, z1]
        simp only at q1
        have q2 := hle j
        have q3 : ∀ (hj : j < ss.length), (ss.take j).flatten.length + ss[j].length ≤ 1000 := fun hj => by
          have h7 := hle (j + 1)
          rw [hstep j hj, List.length_append] at h7
          omega
        ((repeat' (first | (apply WL.opG; (focus (apply SYG.yes; (exact want_none rfl); (first | (apply SY.move <;> (exact oD)) | (apply SY.assign <;> (exact oD)) | (apply SY.load; (exact tD); (exact OpD.t rfl))))); dsimp only [setD, z0, z1]) | refine WL.nil ?_ | refine WC.seqK fun Kx hK => ?_ | (refine hK _ _ ?_; clear hK) | (refine Kont.skip ?_; clear hK) | refine WC.region ?_ |  (apply WL.appK; exact elV; exact OpD.t rfl; exact OpD.t rfl; decide; (have := q3 (by omega); omega); (intro _; dsimp only [setD, z0, z1]); all_goals (try infer_instance)) | (apply WL.opG; (focus (apply SYG.yes; (exact want_none rfl); ((first | exact yLss | exact yAdd | exact yIndexaddr | fail); all_goals infer_instance))); dsimp only [setD, z0, z1]) | (apply WC.condD; (exact oD); (all_goals intro h); (all_goals try (exfalso; first | omega | contradiction))) | refine WC.skip ?_ | refine WC.ret ?_ | refine WC.exit ?_ | refine WC.block ?_ | refine ThenD.n ?_)); all_goals (first | refine WC.id ?_ | refine WL.id ?_ | refine WDs.id ?_ | ((repeat clear hK); (repeat clear Kx))))
        · (refine ⟨(j + 1, _) , ?_, by first | omega | (simp only; omega), by ((try simp only);  (rw [hstep j (by omega)])), ?_⟩; rotate_left; ((try dsimp only [upds, z0, z1]); repeat (first | exact LeF.nil | refine LeF.cons (by first | with_reducible exact Dat.le_any _ | with_reducible exact Dat.le_refl _ | exact le_ii (by omega) | exact Dat.le_nil | exact Dat.le_nilK (by decide) | assumption | exact Dat.le_refl _ | exact le_eq (by simp)) ?_)); (try dsimp only))
          omega
        · (refine ⟨trivial, _, rfl, ?_⟩; (first | exact fD | refine FinD.i ?_ | refine FinD.b ?_ | refine FinD.rowKE (.head _) ?_ | refine FinD.rowE (.head _) ?_ | refine FinD.nilKE (by decide) ?_ | refine FinD.nilE ?_ | refine FinD.s ?_))
          rw [List.take_of_length_le (by omega)]
theorem or_two (a b : List Vx) : orI [chkV a, chkV b] = twoV a b := by
  by_cases ha : chkV a = 0 <;> by_cases hb : chkV b = 0 <;> simp [orI, twoV, ha, hb]
theorem chk_lenG {s : List Vx} (h : chkV s = 0) : 1 ≤ s.length ∧ s.length ≤ 8 := by have := chkV_zero.1 h; omega
theorem two_zeroG {a b : List Vx} (h : twoV a b = 0) : chkV a = 0 ∧ chkV b = 0 := by
  unfold twoV at h
  split at h
  · contradiction
  · rename_i h'; exact ⟨by simpa using h', h⟩
theorem allV_two {a b : List Vx} (ha : Asc a) : allV [] (a ++ b) = allV a b := by
  refine asc_ext (asc_allV (by simp [Asc])) (asc_allV ha) fun x => ?_
  rw [mem_allV, mem_allV]; simp
theorem union_p (a b : List Vx) : Fn Tryz.prog 40 [dS Verts a, dS Verts b] (dT [dS Verts (unionV a b).1, dI (unionV a b).2]) := by
  (refine Fn.intro2 Tryz.func40 rfl rfl ?_; simp only [Tryz.ntmps40, List.length_cons, List.length_nil, Nat.reduceAdd, Nat.reduceSub, List.replicate_succ, List.replicate_zero, List.cons_append, List.nil_append])
  by_cases h0 : twoV a b = 0
  · obtain ⟨ha, hb⟩ := two_zeroG h0
    have la := chk_lenG ha
    have lb := chk_lenG hb
    have hfl : [a, b].flatten = a ++ b := by simp
    have hC := concat_p [a, b] (by rw [hfl, List.length_append]; omega) (by rw [hfl, List.length_append]; omega)
    rw [hfl] at hC
    have hO := of_p (a ++ b) (by rw [List.length_append]; omega)
    have hE := both_p a b
    rw [or_two] at hE
    have hv : ofV (a ++ b) = unionV a b := by
      have h1 : (a ++ b).length ≠ 0 := by rw [List.length_append]; omega
      have h2 : ¬ (a ++ b).all rngV = false := by
        have ra := (chkV_zero.1 ha).2.2.1
        have rb := (chkV_zero.1 hb).2.2.1
        have : (a ++ b).all rngV = true := by
          rw [List.all_eq_true]
          intro v hv
          rcases List.mem_append.1 hv with hv | hv
          · exact ra v hv
          · exact rb v hv
        rw [this]; decide
      unfold unionV
      rw [if_neg (show ¬ twoV a b ≠ 0 by simp [h0])]
      unfold ofV
      rw [if_neg h1, if_neg h2, allV_two (chkV_zero.1 ha).2.2.2]
    ((repeat' (first | (apply WL.opG; (focus (apply SYG.yes; (exact want_none rfl); (first | (apply SY.move <;> (exact oD)) | (apply SY.assign <;> (exact oD))))); dsimp only [setD, z0, z1]) | refine WL.nil ?_ | refine WC.seqK fun Kx hK => ?_ | (refine hK _ _ ?_; clear hK) | refine WC.region ?_ | (apply WL.opG; (focus (apply SYG.yes; (exact want_none rfl); ((first | (apply SY.call (hE) Tryz.call101; (exact aD)) | (apply SY.call (hC) Tryz.call103; (exact aD)) | (apply SY.call (hO) Tryz.call102; (exact aD)) | exact yNeq | exact yBuildslice | exact yExtract | fail); all_goals infer_instance))); dsimp only [setD, z0, z1]) | (apply WC.condN; (exact oD); (all_goals intro h); (all_goals try (exfalso; first | omega | contradiction))) | refine WC.skip ?_ | refine WC.ret ?_)); all_goals (first | refine WC.id ?_ | refine WL.id ?_ | refine WDs.id ?_ | ((repeat clear hK); (repeat clear Kx))))
    all_goals (rw [hv]; (refine ⟨trivial, ⟨_, rfl, ?_⟩, _, rfl, ?_⟩ <;> (first | exact fD | refine FinD.i ?_ | refine FinD.b ?_ | refine FinD.rowKE (.head _) ?_ | refine FinD.rowE (.head _) ?_ | refine FinD.nilKE (by decide) ?_ | refine FinD.nilE ?_ | refine FinD.s ?_)))
  · have hE := both_p a b
    rw [or_two] at hE
    ((repeat' (first | (apply WL.opG; (focus (apply SYG.yes; (exact want_none rfl); (first | (apply SY.move <;> (exact oD)) | (apply SY.assign <;> (exact oD))))); dsimp only [setD, z0, z1]) | refine WL.nil ?_ | refine WC.seqK fun Kx hK => ?_ | (refine hK _ _ ?_; clear hK) | refine WC.region ?_ | (apply WL.opG; (focus (apply SYG.yes; (exact want_none rfl); ((first | (apply SY.call (hE) Tryz.call101; (exact aD)) | exact yNeq | fail); all_goals infer_instance))); dsimp only [setD, z0, z1]) | (apply WC.condN; (exact oD); (all_goals intro h); (all_goals try (exfalso; first | omega | contradiction))) | refine WC.ret ?_ | refine ThenD.r ?_)); all_goals (first | refine WC.id ?_ | refine WL.id ?_ | refine WDs.id ?_ | ((repeat clear hK); (repeat clear Kx))))
    all_goals ((refine ⟨trivial, ⟨_, rfl, ?_⟩, _, rfl, ?_⟩ <;> (first | exact fD | refine FinD.i ?_ | refine FinD.b ?_ | refine FinD.rowKE (.head _) ?_ | refine FinD.rowE (.head _) ?_ | refine FinD.nilKE (by decide) ?_ | refine FinD.nilE ?_ | refine FinD.s ?_)) <;> ((unfold unionV; (repeat' split)) <;> (first | rfl | (exfalso; first | contradiction | omega) | (simp_all; done))))
end Go.Proofs.YtkedmlandjlogaaGreat
namespace Go.Proofs.YtkedmlandjlogaaGreat
open Go.RowKit
def R1 {α : Type} (R : Rel α) : Rel α := fun P w v x => ∃ u, v = .agg #[u] ∧ u.oneCell' = true ∧ R P w u x
instance {α : Type} (R : Rel α) [Good R] : Good (R1 R) where
  weak := fun ⟨u, h1, h0, h2⟩ q => ⟨u, h1, h0, Good.weak h2 q⟩
  move := fun ⟨u, h1, h0, h2⟩ q => ⟨u, h1, h0, Good.move h2 q⟩
  bound := fun ⟨u, h1, h0, h2⟩ => ⟨u, h1, h0, Good.bound h2⟩
abbrev Cpx : Rel (List (List (Int × Int))) := R1 Simps
theorem shape_C {α : Type} {R : Rel α} [Good R] {x : α} : (dS (R1 R) x).Shape 1 true := fun _ _ _ h => by
  obtain ⟨u, rfl, h0, _⟩ := h
  exact ⟨[u], rfl, Nat.one_pos, fun c hc => by rw [List.mem_singleton.1 hc]; exact h0, rfl, rfl⟩
theorem shape_C0 {u : Value} (h0 : u.oneCell' = true) : (dX (.agg #[u])).Shape 1 true := fun _ _ _ h => by
  cases (h : _ = _)
  exact ⟨[u], rfl, Nat.one_pos, fun c hc => by rw [List.mem_singleton.1 hc]; exact h0, rfl, rfl⟩
theorem le_C {α : Type} {R : Rel α} [Good R] {xs : List α} : ∀ (I : Nat → Prop) (w : World) (v : Value), (dS (R1 (Arr R)) xs).rd I w v → xs.length ≤ maxLen := fun _ _ _ h => by obtain ⟨_, _, _, h⟩ := h; exact le_A _ _ _ h
structure CpxT (P : Program) (T : TypeId) : Prop where
  fld : ∀ b off w, (Instr.fieldAt T (.pointer (some ⟨b, off, none⟩)) 0).run P w = .ok (.pointer (some ⟨b, off, none⟩)) w
  mkc : ∀ a n c w, (Instr.build T #[(0, .slice a n c)]).run P w = .ok (.agg #[.slice a n c]) w
  mkc0 : ∀ w, (Instr.build T #[]).run P w = .ok (.agg #[.slice none 0 0]) w
theorem cpxT : CpxT Tryz.prog 24 := by
  constructor
  · intro b off w; go_simp
  · intro a n c w; go_simp
  · intro w; go_simp
theorem tyC : TyI Tryz.prog 24 1 true := ⟨by kernel_rfl, Tryz.isAgg24⟩
theorem tzC : TyZ Tryz.prog 24 (.agg #[.slice none 0 0]) := ⟨by kernel_rfl⟩
theorem tySS : TyI Tryz.prog 22 1 false := ⟨by kernel_rfl, Tryz.isAgg22⟩
section
variable {P : Program} {ops : Array Oper} {hp : List HObj} {fr : List Dat} {d : Dat} {Q : Post} {rest : List Oper}
variable {dst : Option Tmp} {ty : TypeId} {ps : String} {af : Array Edge} {g : Option (Nat × Bool)} {T : TypeId} (V : CpxT P T)
include V
theorem SY.fldC {α : Type} {R : Rel α} {_gR : Good R} {x : Operand} {xs : α} (hx : OpD fr x (dP 1 true (dS (R1 R) xs))) : SY P ops hp { dst := dst, op := .fieldAddr T x 0, type := ty, pos := ps, after := af, guard := g } fr (dP 1 false (dS R xs)) := SY.val fun {I w a} ho => by
  obtain ⟨b, off, u, h1, ⟨hb, cs, k1, k0, k2, k3, k4⟩, u0, hu, h0, h3⟩ := hx.get (by simp [Op.operands]) ho
  simp only [if_true] at k4
  rw [k4] at hu
  have hcs : cs = [u0] := by injection hu with hu; exact List.toArray_inj hu
  subst hcs
  refine ⟨_, ?_, b, off, u0, rfl, ⟨hb, [u0], rfl, Nat.one_pos, by simp [h0], fun j c hc => k3 j c hc, rfl⟩, h3⟩
  unfold execOp
  simp only [h1, Sem.run_bind, V.fld, Result.andThen_ok, Sem.run_pure]
theorem SY.fldX {x : Operand} {b : Nat} (hx : OpD fr x (dX (.pointer (some ⟨b, 0, none⟩)))) : SY P ops hp { dst := dst, op := .fieldAddr T x 0, type := ty, pos := ps, after := af, guard := g } fr (dX (.pointer (some ⟨b, 0, none⟩))) := SY.val fun {I w a} ho => by
  have h1 : a.eval x = .pointer (some ⟨b, 0, none⟩) := hx.get (by simp [Op.operands]) ho
  refine ⟨_, ?_, rfl⟩
  unfold execOp
  simp only [h1, Sem.run_bind, V.fld, Result.andThen_ok, Sem.run_pure]
theorem SY.mkC {α : Type} {R : Rel α} {_gR : Good R} {x : Operand} {xs : List α} (hx : OpD fr x (dS (Arr R) xs)) : SY P ops hp { dst := dst, op := .build T #[(0, x)], type := ty, pos := ps, after := af, guard := g } fr (dS (R1 (Arr R)) xs) := SY.val fun {I w a} ho => by
  have h1 : Arr R I w (a.eval x) xs := hx.get (by simp [Op.operands]) ho
  have h2 := h1
  obtain ⟨ad, c, hv, _⟩ := h2
  rw [hv] at h1
  refine ⟨.agg #[.slice ad xs.length c], ?_, _, rfl, rfl, h1⟩
  unfold execOp
  simp only [List.map_toArray, List.map_cons, List.map_nil, hv, Sem.run_bind, V.mkc, Result.andThen_ok, Sem.run_pure]
theorem SY.mkC0 : SY P ops hp { dst := dst, op := .build T #[], type := ty, pos := ps, after := af, guard := g } fr (dS Cpx []) := SY.val fun {I w a} ho => by
  refine ⟨.agg #[.slice none 0 0], ?_, _, rfl, rfl, Arr.nil'⟩
  unfold execOp
  simp only [List.map_toArray, List.map_nil, Sem.run_bind, V.mkc0, Result.andThen_ok, Sem.run_pure]
end
theorem run_loadVarC {P : Program} {T : TypeId} {n : Nat} {agg : Bool} (T' : TyI P T n agg) {I : Nat → Prop} {w : World} {b off : Nat} {u : Value} (h : Cells I w b off n agg u) : (loadVar T ⟨b, off, none⟩).run P w = .ok u w := by
  have h1 := run_loadC T' h
  simpa [Instr.loadAt, Instr.sureAddr] using h1
theorem results_cellC {P : Program} {fn : Func} {t : Tmp} {T : TypeId} {n : Nat} {agg : Bool} (T' : TyI P T n agg) (hr : fn.results = #[.cell t T]) {I : Nat → Prop} {w : World} {tmps : Array Value} {b off : Nat} {u : Value} (hp : tmps.getD t undef = .pointer (some ⟨b, off, none⟩)) (h : Cells I w b off n agg u) : (results fn tmps).run P w = .ok u w := by
  have h1 := run_loadVarC T' h
  have hp' : tmps[t]?.getD undef = .pointer (some ⟨b, off, none⟩) := by simpa using hp
  simp [results, hr, hp', asAddr, h1]
theorem results_cellC2 {P : Program} {fn : Func} {t t2 : Tmp} {T : TypeId} {n : Nat} {agg : Bool} (T' : TyI P T n agg) (hr : fn.results = #[.cell t T, .tmp t2]) {I : Nat → Prop} {w : World} {tmps : Array Value} {b off : Nat} {u : Value} (hp : tmps.getD t undef = .pointer (some ⟨b, off, none⟩)) (h : Cells I w b off n agg u) : (results fn tmps).run P w = .ok (.tuple #[u, tmps.getD t2 undef]) w := by
  have h1 := run_loadVarC T' h
  have hp' : tmps[t]?.getD undef = .pointer (some ⟨b, off, none⟩) := by simpa using hp
  simp [results, hr, hp', asAddr, h1]
section
variable {P : Program} {hp : List HObj} {d : Dat}
def finC1 (t : Nat) (n : Nat) (agg : Bool) (res : Dat) : Post := fun e fr hp => (match e with | .normal | .ret => True | _ => False) ∧ ∃ d, fr[t]? = some (dP n agg d) ∧ FinD hp d res
def finC2 (t u : Nat) (n : Nat) (agg : Bool) (r s : Dat) : Post := fun e fr hp => (match e with | .normal | .ret => True | _ => False) ∧ (∃ d, fr[t]? = some (dP n agg d) ∧ FinD hp d r) ∧ ∃ d, fr[u]? = some d ∧ FinD hp d s
theorem Fn.introC1 {f : FuncId} {fn : Func} {c : Code} {args : List Dat} {res : Dat} {t : Tmp} {T : TypeId} {n : Nat} {agg : Bool} (T' : TyI P T n agg) (hf : P.funcs[f]? = some fn) (hb : fn.body = some c) (hr : fn.results = #[.cell t T])
    (h : WC P (finC1 t n agg res) c (args ++ List.replicate (fn.ntmps - args.length) (dX undef)) []) : Fn P f args res :=
  Fn.intro hf hb (fun e fr hp q => by
    obtain ⟨he, d, hd, hfin⟩ := q
    refine ⟨by cases e <;> simp_all, fun {P0 B w0 w a} hh hf' => ?_⟩
    obtain ⟨b, off, u, h1, h2, h3⟩ := hf'.rd t _ hd
    exact ⟨u, results_cellC T' hr h1 h2, hfin.out hh h3⟩) h
theorem Fn.introC2 {f : FuncId} {fn : Func} {c : Code} {args : List Dat} {r s : Dat} {t t2 : Tmp} {T : TypeId} {n : Nat} {agg : Bool} (T' : TyI P T n agg) (hf : P.funcs[f]? = some fn) (hb : fn.body = some c) (hr : fn.results = #[.cell t T, .tmp t2])
    (h : WC P (finC2 t t2 n agg r s) c (args ++ List.replicate (fn.ntmps - args.length) (dX undef)) []) : Fn P f args (dT [r, s]) :=
  Fn.intro hf hb (fun e fr hp q => by
    obtain ⟨he, ⟨d, hd, hfin⟩, d', hd', hfin'⟩ := q
    refine ⟨by cases e <;> simp_all, fun {P0 B w0 w a} hh hf' => ?_⟩
    obtain ⟨b, off, u, h1, h2, h3⟩ := hf'.rd t _ hd
    refine ⟨_, results_cellC2 T' hr h1 h2, [u, a.tmps.getD t2 undef], rfl, rfl, fun i e x he hx => ?_⟩
    match i, he, hx with
    | 0, he, hx => cases he; cases hx; exact hfin.out hh h3
    | 1, he, hx => cases he; cases hx; exact hfin'.out hh (hf'.rd t2 d' hd')) h
theorem FinD.rowC {v : Value} {e : TypeId} {α : Type} {R : Rel α} [Good R] {xs : List α} (h : hRow v e R xs ∈ hp) : FinD hp (dX (.agg #[v])) (dS (R1 (Arr R)) xs) := FinD.mk fun {P0 B w0 w u} hh hd => by
  cases (hd : u = _)
  have h1 := (FinD.row h).out (v := v) hh rfl
  have h2 := h1
  obtain ⟨a, c, hv, _⟩ := h2
  subst hv
  exact ⟨_, rfl, rfl, h1⟩
end
end Go.Proofs.YtkedmlandjlogaaGreat
namespace Go.Proofs.YtkedmlandjlogaaGreat
open Go.RowKit
set_option maxHeartbeats 2000000
set_option linter.unusedSimpArgs false


set_option maxRecDepth 100000
theorem fewAll_c (l : Cx) : Fn Tryz.prog 23 [dS Simps l] (dB (fewAllV l)) := by
  (refine Fn.intro1 Tryz.func23 rfl rfl ?_; simp only [Tryz.ntmps23, List.length_cons, List.length_nil, Nat.reduceAdd, Nat.reduceSub, List.replicate_succ, List.replicate_zero, List.cons_append, List.nil_append])
  ((repeat' (first | (apply WL.opG; (focus (apply SYG.yes; (exact want_none rfl); (first | (apply SY.move <;> (exact oD)) | (apply SY.assign <;> (exact oD)) | (apply SY.load; (exact tD); (exact OpD.t rfl))))); dsimp only [setD, z0, z1]) | refine WL.nil ?_ | refine WC.seqK fun Kx hK => ?_ | (refine hK _ _ ?_; clear hK) | refine WC.region ?_ | (apply WL.opG; (focus (apply SYG.yes; (exact want_none rfl); ((first | exact yGtr | exact yLen | fail); all_goals infer_instance))); dsimp only [setD, z0, z1]) | (apply WC.condD; (exact oD); (all_goals intro h); (all_goals try (exfalso; first | omega | contradiction))) | refine WC.skip ?_ | refine WC.ret ?_ | refine WC.block ?_ | refine ThenD.r ?_)); all_goals (first | refine WC.id ?_ | refine WL.id ?_ | refine WDs.id ?_ | ((repeat clear hK); (repeat clear Kx))))
  · (refine ⟨trivial, _, rfl, ?_⟩; (first | exact fD | refine FinD.i ?_ | refine FinD.b ?_ | refine FinD.rowKE (.head _) ?_ | refine FinD.rowE (.head _) ?_ | refine FinD.nilKE (by decide) ?_ | refine FinD.nilE ?_ | refine FinD.s ?_))
    unfold fewAllV
    rw [decide_eq_false (by omega)]; rfl
  · have h0 : l.length ≤ 30 := by omega
    (refine WC.loopU (X := Nat) (fun k => [(3, dI (k : Int)), (2, dA), (7, dA), (8, dA), (9, dA), (10, dA), (11, dA), (12, dA), (13, dA), (14, dA), (15, dA), (16, dA), (17, dA), (18, dA)]) (fun k => []) (fun k => l.length - k) (fun k => k ≤ l.length ∧ ∀ s ∈ l.take k, s.length ≤ 10) 0 ?start ?frame0 ?objs0 ?round)
    case start => simp
    case frame0 => ((try dsimp only [upds, z0, z1]); repeat (first | exact LeF.nil | refine LeF.cons (by first | with_reducible exact Dat.le_any _ | with_reducible exact Dat.le_refl _ | exact le_ii (by omega) | exact Dat.le_nil | exact Dat.le_nilK (by decide) | assumption | exact Dat.le_refl _ | exact le_eq (by simp)) ?_))
    case objs0 => rfl
    case round =>
      rintro k ⟨h1, h2⟩
      dsimp only [upds, z0, z1]
      ((repeat' (first | (apply WL.opG; (focus (apply SYG.yes; (exact want_none rfl); (first | (apply SY.move <;> (exact oD)) | (apply SY.assign <;> (exact oD)) | (apply SY.load; (exact tD); (exact OpD.t rfl))))); dsimp only [setD, z0, z1]) | refine WL.nil ?_ | refine WC.seqK fun Kx hK => ?_ | (refine hK _ _ ?_; clear hK) | (refine Kont.skip ?_; clear hK) | refine WC.region ?_ | (apply WL.opG; (focus (apply SYG.yes; (exact want_none rfl); ((first | (apply SY.call (few_c _) Tryz.call24; (exact aD)) | exact yLss | exact yNot | exact yAdd | exact yLen | exact yIndexaddr | fail); all_goals infer_instance))); dsimp only [setD, z0, z1]) | (apply WC.condD; (exact oD); (all_goals intro h); (all_goals try (exfalso; first | omega | contradiction))) | (apply WC.condN; (exact oD); (all_goals intro h); (all_goals try (exfalso; first | omega | contradiction))) | refine WC.skip ?_ | refine WC.ret ?_ | refine WC.exit ?_ | refine WC.block ?_ | refine ThenD.n ?_ | refine ThenD.r ?_ | refine InBlockD.r ?_)); all_goals (first | refine WC.id ?_ | refine WL.id ?_ | refine WDs.id ?_ | ((repeat clear hK); (repeat clear Kx))))
      · (refine ⟨trivial, _, rfl, ?_⟩; (first | exact fD | refine FinD.i ?_ | refine FinD.b ?_ | refine FinD.rowKE (.head _) ?_ | refine FinD.rowE (.head _) ?_ | refine FinD.nilKE (by decide) ?_ | refine FinD.nilE ?_ | refine FinD.s ?_))
        unfold fewAllV
        symm
        rw [Bool.and_eq_false_iff]
        right
        rw [List.all_eq_false]
        exact ⟨_, List.getElem_mem (show k < l.length by omega), by rw [decide_eq_false (by omega)]; exact Bool.false_ne_true⟩
      · (refine ⟨k + 1, ?_, by first | omega | (simp only; omega), rfl, ?_⟩; rotate_left; ((try dsimp only [upds, z0, z1]); repeat (first | exact LeF.nil | refine LeF.cons (by first | with_reducible exact Dat.le_any _ | with_reducible exact Dat.le_refl _ | exact le_ii (by omega) | exact Dat.le_nil | exact Dat.le_nilK (by decide) | assumption | exact Dat.le_refl _ | exact le_eq (by simp)) ?_)); (try dsimp only))
        refine ⟨by omega, fun s hs => ?_⟩
        rcases (mem_take_snoc (by omega)).1 hs with h' | rfl
        · exact h2 s h'
        · omega
      · rw [List.take_of_length_le (by omega)] at h2
        (refine ⟨trivial, _, rfl, ?_⟩; (first | exact fD | refine FinD.i ?_ | refine FinD.b ?_ | refine FinD.rowKE (.head _) ?_ | refine FinD.rowE (.head _) ?_ | refine FinD.nilKE (by decide) ?_ | refine FinD.nilE ?_ | refine FinD.s ?_))
        unfold fewAllV
        symm
        rw [Bool.and_eq_true, List.all_eq_true]
        exact ⟨decide_eq_true h0, fun s hs => decide_eq_true (h2 s hs)⟩
theorem fewC_c (l : Cx) : Fn Tryz.prog 42 [dS Cpx l] (dB (fewAllV l)) := by
  (refine Fn.intro1 Tryz.func42 rfl rfl ?_; simp only [Tryz.ntmps42, List.length_cons, List.length_nil, Nat.reduceAdd, Nat.reduceSub, List.replicate_succ, List.replicate_zero, List.cons_append, List.nil_append])
  ((repeat' (first | (apply WL.opG; (focus (apply SYG.yes; (exact want_none rfl); (first | (apply SY.assign <;> (exact oD)) | (apply SY.load; (exact tD); (exact OpD.t rfl))))); dsimp only [setD, z0, z1]) | refine WL.nil ?_ | refine WC.seqK fun Kx hK => ?_ | (refine hK _ _ ?_; clear hK) | refine WC.region ?_ | (apply WL.opG; (focus (apply SYG.yes; (exact want_none rfl); ((first | (apply SY.call (fewAll_c _) Tryz.call23; (exact aD)) | exact yFieldaddr | exact yBox | fail); all_goals infer_instance))); dsimp only [setD, z0, z1]) | refine WC.ret ?_)); all_goals (first | refine WC.id ?_ | refine WL.id ?_ | refine WDs.id ?_ | ((repeat clear hK); (repeat clear Kx))))
  (refine ⟨trivial, _, rfl, ?_⟩; (first | exact fD | refine FinD.i ?_ | refine FinD.b ?_ | refine FinD.rowKE (.head _) ?_ | refine FinD.rowE (.head _) ?_ | refine FinD.nilKE (by decide) ?_ | refine FinD.nilE ?_ | refine FinD.s ?_))
theorem sameC_c (l m : Cx) : Fn Tryz.prog 21 [dS Cpx l, dS Cpx m] (dB (decide (l = m))) := by
  (refine Fn.intro1 Tryz.func21 rfl rfl ?_; simp only [Tryz.ntmps21, List.length_cons, List.length_nil, Nat.reduceAdd, Nat.reduceSub, List.replicate_succ, List.replicate_zero, List.cons_append, List.nil_append])
  ((repeat' (first | (apply WL.opG; (focus (apply SYG.yes; (exact want_none rfl); (first | (apply SY.assign <;> (exact oD)) | (apply SY.load; (exact tD); (exact OpD.t rfl))))); dsimp only [setD, z0, z1]) | refine WL.nil ?_ | refine WC.seqK fun Kx hK => ?_ | (refine hK _ _ ?_; clear hK) | refine WC.region ?_ | (apply WL.opG; (focus (apply SYG.yes; (exact want_none rfl); ((first | (apply SY.call (sameAll_c _ _) Tryz.call77; (exact aD)) | exact yFieldaddr | exact yBox | fail); all_goals infer_instance))); dsimp only [setD, z0, z1]) | refine WC.ret ?_)); all_goals (first | refine WC.id ?_ | refine WL.id ?_ | refine WDs.id ?_ | ((repeat clear hK); (repeat clear Kx))))
  (refine ⟨trivial, _, rfl, ?_⟩; (first | exact fD | refine FinD.i ?_ | refine FinD.b ?_ | refine FinD.rowKE (.head _) ?_ | refine FinD.rowE (.head _) ?_ | refine FinD.nilKE (by decide) ?_ | refine FinD.nilE ?_ | refine FinD.s ?_))
end Go.Proofs.YtkedmlandjlogaaGreat
namespace Go.Proofs.YtkedmlandjlogaaGreat
open Go.RowKit
set_option linter.unusedSimpArgs false

set_option maxHeartbeats 2000000
set_option maxRecDepth 100000
theorem filt_snoc {p : List Vx → Bool} {l : Cx} {k : Nat} (h : k < l.length) : (l.take (k + 1)).filter p = (l.take k).filter p ++ (if p l[k] = true then [l[k]] else []) := by
  rw [take_snoc' h, List.filter_append]
  by_cases hp : p l[k] = true
  · rw [if_pos hp, List.filter_cons_of_pos hp]; rfl
  · rw [if_neg hp, List.filter_cons_of_neg hp]; rfl
end Go.Proofs.YtkedmlandjlogaaGreat
