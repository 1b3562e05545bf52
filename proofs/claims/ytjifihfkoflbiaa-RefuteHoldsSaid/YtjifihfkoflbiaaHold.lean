/-
  RefuteHolds: an implied clause is true in each model of the clauses, and clauses with a refutation have no model.
-/
import Derived.Test.YtjifihfkoflbiaaEval
namespace Go.Proofs.Ytjifihfkoflbiaa
open Go.ChangeShapes Go.WideShapes Go.ChangeAt Go.RowKit

section
variable {P P' : Nat → Prop} {u v : Value} {l p : List (List Int)}

theorem holds_plain {V : Nat} (hV : V ≤ 4096) {m : List Int} (hm : Modl V m) (h1 : checkI (V : Int) l = 0) (ht : allT l m = true) : (verifyI (V : Int) l p).2 ≠ 0 ∧ ∀ c, WC V c → followsI l c = true → trueI c m = true := by
  obtain ⟨_, _, _, a4⟩ := checkI_zero h1
  have hwl := (clausesI_iff hV).1 a4
  have hall : ∀ c ∈ l, trueI c m = true := List.all_eq_true.1 ht
  refine ⟨fun h3 => ?_, fun c hc hf => follows_holds hV hwl hc hm hall hf⟩
  obtain ⟨_, _, b3, b4⟩ := verifyI_ok h3
  obtain ⟨g1, g2⟩ := gapI_neg.1 b4
  exact refut_holds hV ⟨hwl, badI_wl hV b3, g1, g2⟩ hm hall

set_option maxHeartbeats 4000000 in
theorem holds_w (vars bits : Int) (w : World) (hu : Rows P w u l) (hv : Rows P' w v p) (hr : IRR l) :
    Calls Try.prog 10 #[.agg #[.int .i64 vars, u], v, .int .u16 bits] w fun e w' => e = .returned (.bool true) ∧ Ext w w' := by
  have hle := hv.le
  cases hf : fewB vars l && few2B p
  · go_enter Try.func10, Try.ntmps10
    go_wp2_with (first | (go_at_call 11; refine (few_c _ _ (hu.ext (Ext.of_alloc _ _)) (hv.ext (Ext.of_alloc _ _))).mono ?_; rintro e w1 ⟨rfl, hx1⟩; rw [hf]) | (go_at_call 12; refine (awake_c _).mono ?_; rintro e w2 ⟨rfl, hx2⟩))
    go_ret
    exact ⟨rfl, ((Ext.of_alloc w _).trans hx1).trans hx2⟩
  · rw [Bool.and_eq_true] at hf
    have Hf : Hid ((fewB vars l && few2B p) = true) := by show _ = _; rw [hf.1, hf.2]; rfl
    have HF := Lib.hid hf
    clear hf
    by_cases hck : checkI vars l = 0
    · have Hck := Lib.hid hck
      obtain ⟨hv0, hv1, _, hcl⟩ := checkI_zero hck
      have hv14 := (fewB_small HF.out.1 hck).2.2
      obtain ⟨V, rfl⟩ : ∃ V : Nat, vars = (V : Int) := ⟨vars.toNat, by omega⟩
      have hV : V ≤ 4096 := by omega
      have hV14 : V ≤ 14 := by omega
      have hM := modelI_isM V bits
      have HM := Lib.hid hM
      have HP := Lib.hid (fun ht => holds_plain (p := p) hV (modelI_modl V bits) hck ht)
      clear hck hcl hM
      go_enter Try.func10, Try.ntmps10
      go_wp2_with (first | (go_at_call 11; refine (few_c _ _ (hu.ext (Ext.of_alloc _ _)) (hv.ext (Ext.of_alloc _ _))).mono ?_; rintro e w1 ⟨rfl, hx1⟩; rw [Hf.out]; have hx := (Ext.of_alloc w _).trans hx1; have hu1 := hu.ext hx; have hv1 := hv.ext hx; have hb0 : w1.cell? ⟨w.heap.size, 0, none⟩ = some (.int .i64 (V : Int)) := hx1.cell (by simp); have hb1 : w1.cell? ⟨w.heap.size, 1, none⟩ = some u := hx1.cell (by simp)) | (go_at_call 21; refine (check_c _ _ hu1).mono ?_; rintro e w2 ⟨rfl, hx2⟩; rw [Hck.out]; have hd0 := hx2.cell hb0; have hd1 := hx2.cell hb1; have hu2 := hu1.ext hx2; have hv2 := hv1.ext hx2) | (go_at_call 29; refine (model_c V bits _ hV14).mono ?_; rintro e w3 ⟨m3, rfl, hm3, hx3⟩; have he0 := hx3.cell hd0; have he1 := hx3.cell hd1; have hu3 := hu2.ext hx3; have hv3 := hv2.ext hx3; have hma := hm3.arr) | (go_at_call 33; refine (peval_c V _ hu3 hma hr Hck.out HM.out).mono ?_; rintro e w4 ⟨⟨z4, rfl⟩, hx4⟩; have hg0 := hx4.cell he0; have hg1 := hx4.cell he1; have hu4 := hu3.ext hx4; have hv4 := hv3.ext hx4; have hm4 := hma.ext hx4))
      have h3 : (allT l (modelI V bits) = true ∧ ((verifyI (V : Int) l p).2 == 0) = false) ∨ (allT l (modelI V bits) = false ∧ ((verifyI (V : Int) l p).2 == 0) = true) ∨ (allT l (modelI V bits) = false ∧ ((verifyI (V : Int) l p).2 == 0) = false) := by
        cases hT : allT l (modelI V bits) with
        | true => exact .inl ⟨rfl, by simpa using (HP.out hT).1⟩
        | false => cases hb : (verifyI (V : Int) l p).2 == 0 with
          | true => exact .inr (.inl ⟨rfl, rfl⟩)
          | false => exact .inr (.inr ⟨rfl, rfl⟩)
      have HI : Hid (∀ c, clauseI (V : Int) none c = 0 → impliedI (V : Int) l c = (followsI l c, 0)) := fun c hc => by
        unfold impliedI; rw [if_neg (by simp [Hck.out]), if_neg (by simp [hc])]
      have HT : Hid (allT l (modelI V bits) = true → ∀ c, clauseI (V : Int) none c = 0 → followsI l c = true → trueI c (modelI V bits) = true) := fun ht c hc hfo => (HP.out ht).2 c ((clauseI_iff hV).1 hc) hfo
      have hxx : Ext w w4 := ((hx.trans hx2).trans hx3).trans hx4
      clear hx1 hx2 hx3 hx4 hb0 hb1 hd0 hd1 he0 he1 hu1 hu2 hu3 hv1 hv2 hv3 hma hm3 hx
      rcases h3 with ⟨hT, hb⟩ | ⟨hT, hb⟩ | ⟨hT, hb⟩
      all_goals (
        rw [hT]
        have HTT := Lib.hid hT
        clear hT
        go_wp2_with (first | (go_at_call 13; refine (pverify_c _ _ hu4 hv4 hr).mono ?_; rintro e w5 ⟨rfl, hx5⟩; have k0 := hx5.cell hg0; have k1 := hx5.cell hg1; have hu5 := hu4.ext hx5; have hv5 := hv4.ext hx5; have hm5 := hm4.ext hx5) | ((with_reducible refine w_len elR.und ?_ ?_ hv5.len ?_); (· rfl); (· rfl); simp only [Act.put, List.setIfInBounds_toArray, List.set_cons_succ, List.set_cons_zero]))
        go_loopw [53] (fun i wr => ∃ (k : Nat), k ≤ p.length ∧ i = .int .i64 (k : Int) ∧ Ext w5 wr) (fun i _ => p.length - (intOf i).toNat)
        case atStart => exact ⟨0, Nat.zero_le _, rfl, Ext.refl _⟩
        case round =>
          obtain ⟨k, hk, rfl, hxr⟩ := hrel
          have hv6 := hv5.ext hxr
          have hu6 := hu5.ext hxr
          have hm6 := hm5.ext hxr
          have k2 := hxr.cell k0
          have k3 := hxr.cell k1
          by_cases hlt : k < p.length
          · by_cases hcl : clauseI (V : Int) none p[k] = 0
            · have Hcl := Lib.hid hcl
              have hI := HI.out _ hcl
              clear hcl
              cases hfo : followsI l p[k]
              · rw [hfo] at hI
                go_wp2_with (first | ((with_reducible refine w_ix elR ?_ ?_ ?_ ?_ ?_ hv6 hlt ?_); (· rfl); (· exact fun _ => rfl); (· exact fun _ => rfl); (· rfl); (· rfl); intro _ x hxx1 h1x; simp only [Act.put, List.setIfInBounds_toArray, List.set_cons_succ, List.set_cons_zero]) | (go_at_call 22; refine (clause_c _ _ hxx1 (by omega) (by omega)).mono ?_; rintro e w7 ⟨rfl, hn7⟩; rw [Hcl.out]; (have hx7 : Ext _ w7 := hn7.elim (fun n h => h ▸ Ext.of_drewN _ n)); clear hn7; have k4 := hx7.cell k2; have k5 := hx7.cell k3; have hu7 := hu6.ext hx7; have hy7 := Good.ext (R := Ints) hxx1 hx7) | (go_at_call 23; refine (pimplied_k hI _ hu7 hy7 hr).mono ?_; rintro e w8 ⟨rfl, hu8, hy8, hx8⟩))
                go_roundw
                case rel => exact ⟨k + 1, hlt, by go_num, (hxr.trans hx7).trans hx8⟩
                case measure => simp [intOf]; omega
              · rw [hfo] at hI
                first
                | (have htr := HT.out HTT.out _ Hcl.out hfo
                   go_wp2_with (first | ((with_reducible refine w_ix elR ?_ ?_ ?_ ?_ ?_ hv6 hlt ?_); (· rfl); (· exact fun _ => rfl); (· exact fun _ => rfl); (· rfl); (· rfl); intro _ x hxx1 h1x; simp only [Act.put, List.setIfInBounds_toArray, List.set_cons_succ, List.set_cons_zero]) | (go_at_call 22; refine (clause_c _ _ hxx1 (by omega) (by omega)).mono ?_; rintro e w7 ⟨rfl, hn7⟩; rw [Hcl.out]; (have hx7 : Ext _ w7 := hn7.elim (fun n h => h ▸ Ext.of_drewN _ n)); clear hn7; have k4 := hx7.cell k2; have k5 := hx7.cell k3; have hu7 := hu6.ext hx7; have hm7 := hm6.ext hx7; have hy7 := Good.ext (R := Ints) hxx1 hx7) | (go_at_call 23; refine (pimplied_k hI _ hu7 hy7 hr).mono ?_; rintro e w8 ⟨rfl, hu8, hy8, hx8⟩; have hm8 := hm7.ext hx8) | (go_at_call 34; refine (true_c _ hy8 hm8).mono ?_; rintro e w9 ⟨rfl, rfl⟩; rw [htr]))
                   go_roundw
                   case rel => exact ⟨k + 1, hlt, by go_num, (hxr.trans hx7).trans hx8⟩
                   case measure => simp [intOf]; omega)
                | (go_wp2_with (first | ((with_reducible refine w_ix elR ?_ ?_ ?_ ?_ ?_ hv6 hlt ?_); (· rfl); (· exact fun _ => rfl); (· exact fun _ => rfl); (· rfl); (· rfl); intro _ x hxx1 h1x; simp only [Act.put, List.setIfInBounds_toArray, List.set_cons_succ, List.set_cons_zero]) | (go_at_call 22; refine (clause_c _ _ hxx1 (by omega) (by omega)).mono ?_; rintro e w7 ⟨rfl, hn7⟩; rw [Hcl.out]; (have hx7 : Ext _ w7 := hn7.elim (fun n h => h ▸ Ext.of_drewN _ n)); clear hn7; have k4 := hx7.cell k2; have k5 := hx7.cell k3; have hu7 := hu6.ext hx7; have hy7 := Good.ext (R := Ints) hxx1 hx7) | (go_at_call 23; refine (pimplied_k hI _ hu7 hy7 hr).mono ?_; rintro e w8 ⟨rfl, hu8, hy8, hx8⟩))
                   go_roundw
                   case rel => exact ⟨k + 1, hlt, by go_num, (hxr.trans hx7).trans hx8⟩
                   case measure => simp [intOf]; omega)
            · go_wp2_with (first | ((with_reducible refine w_ix elR ?_ ?_ ?_ ?_ ?_ hv6 hlt ?_); (· rfl); (· exact fun _ => rfl); (· exact fun _ => rfl); (· rfl); (· rfl); intro _ x hxx1 h1x; simp only [Act.put, List.setIfInBounds_toArray, List.set_cons_succ, List.set_cons_zero]) | (go_at_call 22; refine (clause_c _ _ hxx1 (by omega) (by omega)).mono ?_; rintro e w7 ⟨rfl, hn7⟩; (have hx7 : Ext _ w7 := hn7.elim (fun n h => h ▸ Ext.of_drewN _ n)); clear hn7))
              go_roundw
              case rel => exact ⟨k + 1, hlt, by go_num, hxr.trans hx7⟩
              case measure => simp [intOf]; omega
          · obtain rfl : k = p.length := by omega
            go_wp2_with (go_at_call 12; refine (awake_c _).mono ?_; rintro e w12 ⟨rfl, hx12⟩)
            go_ret
            exact ⟨rfl, ((hxx.trans hx5).trans hxr).trans hx12⟩)
    · go_enter Try.func10, Try.ntmps10
      go_wp2_with (first | (go_at_call 11; refine (few_c _ _ (hu.ext (Ext.of_alloc _ _)) (hv.ext (Ext.of_alloc _ _))).mono ?_; rintro e w1 ⟨rfl, hx1⟩; rw [Hf.out]; have hx := (Ext.of_alloc w _).trans hx1; have hu1 := hu.ext hx; have hb0 : w1.cell? ⟨w.heap.size, 0, none⟩ = some (.int .i64 vars) := hx1.cell (by simp); have hb1 : w1.cell? ⟨w.heap.size, 1, none⟩ = some u := hx1.cell (by simp)) | (go_at_call 21; refine (check_c _ _ hu1).mono ?_; rintro e w2 ⟨rfl, hx2⟩) | (go_at_call 12; refine (awake_c _).mono ?_; rintro e w12 ⟨rfl, hx12⟩))
      go_ret
      exact ⟨rfl, (hx.trans hx2).trans hx12⟩
end

end Go.Proofs.Ytjifihfkoflbiaa
