/- Part 2: walks by contracts, and plain laws. -/
import Derived.Test.YtpiidgcljlalmaaVa35
import Derived.Test.YtpiidgcljlalmaaVb1
set_option linter.unusedVariables false
set_option linter.unusedSimpArgs false
set_option linter.unusedSectionVars false
namespace Go.Proofs.Ytpiidgcljlalmaa
open Go.RowKit

set_option maxHeartbeats 400000 in
theorem has_c {P : Nat → Prop} {v : Value} {zs : List Int} (n : Int) (w : World) (hv : Ints P w v zs) :
    Calls Try.prog 109 #[v, .int .i64 n] w fun e w' => e = .returned (.bool (hasI zs n)) ∧ w' = w := by
  have hle := hv.le
  go_enter Try.func109, Try.ntmps109
  go_wp2
  go_loop [5] (fun i => ∃ k : Nat, k ≤ zs.length ∧ i = .int .i64 k ∧ Hid (hasI (zs.drop k) n = hasI zs n)) (fun i => zs.length - (intOf i).toNat)
  case atStart => exact ⟨0, Nat.zero_le _, rfl, rfl⟩
  case round =>
    obtain ⟨k, hk, rfl, hn⟩ := hrel
    by_cases hlt : k < zs.length
    · have hd : Hid (zs.drop k = zs[k] :: zs.drop (k + 1)) := List.drop_eq_getElem_cons hlt
      by_cases hx : zs[k] = n
      · go_wp2_with (first | ((with_reducible refine w_len elI.und ?_ ?_ hv.len ?_); (· rfl); (· rfl); simp only [Act.put, List.setIfInBounds_toArray, List.set_cons_succ, List.set_cons_zero]) | ((with_reducible refine w_ixI elI ?_ ?_ ?_ ?_ ?_ hv hlt ?_); (· rfl); (· exact fun _ => rfl); (· exact fun _ => rfl); (· rfl); (· rfl); intro _; simp only [Act.put, List.setIfInBounds_toArray, List.set_cons_succ, List.set_cons_zero]))
        go_ret
        exact ⟨ret_b (by rw [← hn.out, hd.out, hasI, if_pos hx]), rfl⟩
      · go_wp2_with (first | ((with_reducible refine w_len elI.und ?_ ?_ hv.len ?_); (· rfl); (· rfl); simp only [Act.put, List.setIfInBounds_toArray, List.set_cons_succ, List.set_cons_zero]) | ((with_reducible refine w_ixI elI ?_ ?_ ?_ ?_ ?_ hv hlt ?_); (· rfl); (· exact fun _ => rfl); (· exact fun _ => rfl); (· rfl); (· rfl); intro _; simp only [Act.put, List.setIfInBounds_toArray, List.set_cons_succ, List.set_cons_zero]))
        go_round
        case rel => exact ⟨k + 1, hlt, by go_num, by rw [← hn.out, hd.out, hasI, if_neg hx]; rfl⟩
        case measure => simp [intOf]; omega
    · obtain rfl : k = zs.length := by omega
      go_wp2_with ((with_reducible refine w_len elI.und ?_ ?_ hv.len ?_); (· rfl); (· rfl); simp only [Act.put, List.setIfInBounds_toArray, List.set_cons_succ, List.set_cons_zero])
      go_ret
      exact ⟨ret_b (by rw [← hn.out, List.drop_length, hasI]), rfl⟩

set_option maxHeartbeats 400000 in
theorem same_c {P P' : Nat → Prop} {u v : Value} {a b : List Int} (w : World) (hu : Ints P w u a) (hv : Ints P' w v b) :
    Calls Try.prog 59 #[u, v] w fun e w' => e = .returned (.bool (sameI a b)) ∧ ∃ n, w' = w.drewN n := by
  have hle := hu.le
  have hle' := hv.le
  by_cases hl : a.length = b.length
  · have Hl := Lib.hid hl
    have hb : ((a.length : Int) != (b.length : Int)) = false := by rw [hl]; simp
    clear hl
    go_enter Try.func59, Try.ntmps59
    go_wp2_with (first | ((with_reducible refine w_len elI.und ?_ ?_ hu.len ?_); (· rfl); (· rfl); simp only [Act.put, List.setIfInBounds_toArray, List.set_cons_succ, List.set_cons_zero]) | ((with_reducible refine w_len elI.und ?_ ?_ hv.len ?_); (· rfl); (· rfl); simp only [Act.put, List.setIfInBounds_toArray, List.set_cons_succ, List.set_cons_zero]))
    go_loopw [5] (fun i wr => ∃ k m : Nat, k ≤ a.length ∧ i = .int .i64 k ∧ Hid (sameI (a.drop k) (b.drop k) = sameI a b) ∧ wr = w.drewN m) (fun i _ => a.length - (intOf i).toNat)
    case atStart => exact ⟨0, 0, Nat.zero_le _, rfl, rfl, rfl⟩
    case round =>
      obtain ⟨k, m, hk, rfl, hn, rfl⟩ := hrel
      have hu' := hu.ext (Ext.of_drewN w m)
      have hv' := hv.ext (Ext.of_drewN w m)
      by_cases hlt : k < a.length
      · have hlt' : k < b.length := by rw [← Hl.out]; exact hlt
        have hst := Lib.hid (sameI_step hlt hlt')
        go_wp2_with (first | ((with_reducible refine w_len elI.und ?_ ?_ hu'.len ?_); (· rfl); (· rfl); simp only [Act.put, List.setIfInBounds_toArray, List.set_cons_succ, List.set_cons_zero]))
        (refine wp_region_quiet_lit (by kernel_rfl) (by kernel_rfl) ?_; (repeat (first | go_big_quiet_skip |  ((with_reducible refine q_ixI elI ?_ ?_ ?_ ?_ hu' hlt ext_of_class ?_ ?_); (· rfl); (· exact fun _ => rfl); (· rfl); (· rfl); (· exact fun _ => rfl); intro _; simp only [Act.put, List.setIfInBounds_toArray, List.set_cons_succ, List.set_cons_zero]) | ((with_reducible refine q_ixI elI ?_ ?_ ?_ ?_ hv' hlt' ext_of_class ?_ ?_); (· rfl); (· exact fun _ => rfl); (· rfl); (· rfl); (· exact fun _ => rfl); intro _; simp only [Act.put, List.setIfInBounds_toArray, List.set_cons_succ, List.set_cons_zero])  | go_big_quiet_step (fail))); refine wpQuiet_nil ?_; rintro _ ⟨nq, rfl⟩)
        by_cases hz : a[k] = b[k]
        · have hz' : (a[k] != b[k]) = false := by simp [hz]
          have Hz := Lib.hid hz
          clear hz
          go_wp2
          go_roundw
          case rel => exact ⟨k + 1, m + nq, hlt, by go_num, by rw [← hn.out, hst.out, if_neg (by simp [Hz.out])]; rfl, rfl⟩
          case measure => simp [intOf]; omega
        · have hz' : (a[k] != b[k]) = true := by simp [hz]
          go_wp2
          go_ret
          exact ⟨ret_b (by rw [← hn.out, hst.out, if_pos hz]), m + nq, World.drewN_drewN ..⟩
      · obtain rfl : k = a.length := by omega
        go_wp2_with (first | ((with_reducible refine w_len elI.und ?_ ?_ hu'.len ?_); (· rfl); (· rfl); simp only [Act.put, List.setIfInBounds_toArray, List.set_cons_succ, List.set_cons_zero]))
        go_ret
        exact ⟨ret_b (by rw [← hn.out, List.drop_length, Hl.out, List.drop_length, sameI]), m, rfl⟩
  · have hb : ((a.length : Int) != (b.length : Int)) = true := by simp; omega
    have hf := Lib.hid (sameI_len hl)
    go_enter Try.func59, Try.ntmps59
    go_wp2_with (first | ((with_reducible refine w_len elI.und ?_ ?_ hu.len ?_); (· rfl); (· rfl); simp only [Act.put, List.setIfInBounds_toArray, List.set_cons_succ, List.set_cons_zero]) | ((with_reducible refine w_len elI.und ?_ ?_ hv.len ?_); (· rfl); (· rfl); simp only [Act.put, List.setIfInBounds_toArray, List.set_cons_succ, List.set_cons_zero]))
    go_ret
    exact ⟨ret_b (by rw [hf.out]), 0, rfl⟩

set_option maxHeartbeats 400000 in
theorem sameAll_c {P P' : Nat → Prop} {u v : Value} {a b : List (List Int)} (w : World) (hu : Rows P w u a) (hv : Rows P' w v b) :
    Calls Try.prog 25 #[u, v] w fun e w' => e = .returned (.bool (sameAllI a b)) ∧ ∃ n, w' = w.drewN n := by
  have hle := hu.le
  have hle' := hv.le
  by_cases hl : a.length = b.length
  · have Hl := Lib.hid hl
    have hb : ((a.length : Int) != (b.length : Int)) = false := by rw [hl]; simp
    clear hl
    go_enter Try.func25, Try.ntmps25
    go_wp2_with (first | ((with_reducible refine w_len elR.und ?_ ?_ hu.len ?_); (· rfl); (· rfl); simp only [Act.put, List.setIfInBounds_toArray, List.set_cons_succ, List.set_cons_zero]) | ((with_reducible refine w_len elR.und ?_ ?_ hv.len ?_); (· rfl); (· rfl); simp only [Act.put, List.setIfInBounds_toArray, List.set_cons_succ, List.set_cons_zero]))
    go_loopw [5] (fun i wr => ∃ k m : Nat, k ≤ a.length ∧ i = .int .i64 k ∧ Hid (sameAllI (a.drop k) (b.drop k) = sameAllI a b) ∧ wr = w.drewN m) (fun i _ => a.length - (intOf i).toNat)
    case atStart => exact ⟨0, 0, Nat.zero_le _, rfl, rfl, rfl⟩
    case round =>
      obtain ⟨k, m, hk, rfl, hn, rfl⟩ := hrel
      have hu' := hu.ext (Ext.of_drewN w m)
      have hv' := hv.ext (Ext.of_drewN w m)
      by_cases hlt : k < a.length
      · have hlt' : k < b.length := by rw [← Hl.out]; exact hlt
        have hst := Lib.hid (sameAllI_step hlt hlt')
        go_wp2_with (first | ((with_reducible refine w_len elR.und ?_ ?_ hu'.len ?_); (· rfl); (· rfl); simp only [Act.put, List.setIfInBounds_toArray, List.set_cons_succ, List.set_cons_zero]))
        (refine wp_region_quiet_lit (by kernel_rfl) (by kernel_rfl) ?_; (repeat (first | go_big_quiet_skip |  ((with_reducible refine q_ix elR ?_ ?_ ?_ ?_ hu' hlt ext_of_class ?_ ?_); (· rfl); (· exact fun _ => rfl); (· rfl); (· rfl); (· exact fun _ => rfl); intro _ c hc h1c; simp only [Act.put, List.setIfInBounds_toArray, List.set_cons_succ, List.set_cons_zero]) | ((with_reducible refine q_ix elR ?_ ?_ ?_ ?_ hv' hlt' ext_of_class ?_ ?_); (· rfl); (· exact fun _ => rfl); (· rfl); (· rfl); (· exact fun _ => rfl); intro _ d hd h1d; simp only [Act.put, List.setIfInBounds_toArray, List.set_cons_succ, List.set_cons_zero]) | ((with_reducible refine q_call Try.call59 ?_ ?_ (fun w hw => class_call hw (same_c _ (Good.ext (R := Ints) hc (ext_of_class _ hw)) (Good.ext (R := Ints) hd (ext_of_class _ hw)))) ?_); (· rfl); (· rfl); simp only [Act.put, List.setIfInBounds_toArray, List.set_cons_succ, List.set_cons_zero])  | go_big_quiet_step (fail))); refine wpQuiet_nil ?_; rintro _ ⟨nq, rfl⟩)
        cases hz : sameI a[k] b[k]
        · go_wp2
          go_ret
          exact ⟨ret_b (by rw [← hn.out, hst.out, if_neg (by simp [hz])]), m + nq, World.drewN_drewN ..⟩
        · go_wp2
          go_roundw
          case rel => exact ⟨k + 1, m + nq, hlt, by go_num, by rw [← hn.out, hst.out, if_pos hz]; rfl, rfl⟩
          case measure => simp [intOf]; omega
      · obtain rfl : k = a.length := by omega
        go_wp2_with (first | ((with_reducible refine w_len elR.und ?_ ?_ hu'.len ?_); (· rfl); (· rfl); simp only [Act.put, List.setIfInBounds_toArray, List.set_cons_succ, List.set_cons_zero]))
        go_ret
        exact ⟨ret_b (by rw [← hn.out, List.drop_length, Hl.out, List.drop_length, sameAllI]), m, rfl⟩
  · have hb : ((a.length : Int) != (b.length : Int)) = true := by simp; omega
    have hf := Lib.hid (sameAllI_len hl)
    go_enter Try.func25, Try.ntmps25
    go_wp2_with (first | ((with_reducible refine w_len elR.und ?_ ?_ hu.len ?_); (· rfl); (· rfl); simp only [Act.put, List.setIfInBounds_toArray, List.set_cons_succ, List.set_cons_zero]) | ((with_reducible refine w_len elR.und ?_ ?_ hv.len ?_); (· rfl); (· rfl); simp only [Act.put, List.setIfInBounds_toArray, List.set_cons_succ, List.set_cons_zero]))
    go_ret
    exact ⟨ret_b (by rw [hf.out]), 0, rfl⟩

set_option maxHeartbeats 400000 in
theorem true_c {P P' : Nat → Prop} {u v : Value} {c l : List Int} (w : World) (hu : Ints P w u c) (hv : Ints P' w v l) :
    Calls Try.prog 104 #[u, v] w fun e w' => e = .returned (.bool (trueI c l)) ∧ w' = w := by
  have hle := hu.le
  go_enter Try.func104, Try.ntmps104
  go_wp2
  go_loop [5] (fun i => ∃ k : Nat, k ≤ c.length ∧ i = .int .i64 k ∧ Hid (trueI (c.drop k) l = trueI c l)) (fun i => c.length - (intOf i).toNat)
  case atStart => exact ⟨0, Nat.zero_le _, rfl, rfl⟩
  case round =>
    obtain ⟨k, hk, rfl, hn⟩ := hrel
    by_cases hlt : k < c.length
    · have hst := Lib.hid (trueI_step (l := l) hlt)
      cases hz : hasI l c[k]
      · go_wp2_with (first | ((with_reducible refine w_len elI.und ?_ ?_ hu.len ?_); (· rfl); (· rfl); simp only [Act.put, List.setIfInBounds_toArray, List.set_cons_succ, List.set_cons_zero]) | ((with_reducible refine w_ixI elI ?_ ?_ ?_ ?_ ?_ hu hlt ?_); (· rfl); (· exact fun _ => rfl); (· exact fun _ => rfl); (· rfl); (· rfl); intro _; simp only [Act.put, List.setIfInBounds_toArray, List.set_cons_succ, List.set_cons_zero]) | (go_at_call 109; refine (has_c _ _ hv).mono ?_; rintro e w1 ⟨rfl, rfl⟩))
        go_round
        case rel => exact ⟨k + 1, hlt, by go_num, by rw [← hn.out, hst.out, if_neg (by simp [hz])]; rfl⟩
        case measure => simp [intOf]; omega
      · go_wp2_with (first | ((with_reducible refine w_len elI.und ?_ ?_ hu.len ?_); (· rfl); (· rfl); simp only [Act.put, List.setIfInBounds_toArray, List.set_cons_succ, List.set_cons_zero]) | ((with_reducible refine w_ixI elI ?_ ?_ ?_ ?_ ?_ hu hlt ?_); (· rfl); (· exact fun _ => rfl); (· exact fun _ => rfl); (· rfl); (· rfl); intro _; simp only [Act.put, List.setIfInBounds_toArray, List.set_cons_succ, List.set_cons_zero]) | (go_at_call 109; refine (has_c _ _ hv).mono ?_; rintro e w1 ⟨rfl, rfl⟩))
        go_ret
        exact ⟨ret_b (by rw [← hn.out, hst.out, if_pos hz]), rfl⟩
    · obtain rfl : k = c.length := by omega
      go_wp2_with ((with_reducible refine w_len elI.und ?_ ?_ hu.len ?_); (· rfl); (· rfl); simp only [Act.put, List.setIfInBounds_toArray, List.set_cons_succ, List.set_cons_zero])
      go_ret
      exact ⟨ret_b (by rw [← hn.out, List.drop_length, trueI]), rfl⟩

end Go.Proofs.Ytpiidgcljlalmaa
namespace Go.Proofs.Ytpiidgcljlalmaa
open Go.RowKit
set_option maxRecDepth 100000
theorem sameAll43_p (a b : List (List Int)) : Fn Try.prog 25 [dS Rows a, dS Rows b] (dB (sameAllI a b)) := Fn.old2 fun I w u v hu hv => by
  refine (sameAll_c w hu hv).mono ?_
  rintro e w' ⟨rfl, n, rfl⟩
  exact ⟨_, rfl, (Ext.refl _).drewN n, rfl⟩
theorem true43_p (c l : List Int) : Fn Try.prog 104 [dS Ints c, dS Ints l] (dB (trueI c l)) := Fn.old2 fun I w u v hu hv => by
  refine (true_c w hu hv).mono ?_
  rintro e w' ⟨rfl, rfl⟩
  exact ⟨_, rfl, Ext.refl _, rfl⟩
theorem implied43_p (V : Int) (l : List (List Int)) (c : List Int) (hr : IRR l) : Fn Try.prog 49 [dS Cls (V, l), dS Ints c] (dT [dB (impliedI V l c).1, dI (impliedI V l c).2]) := Fn.old2 fun I w u v hu hv => by
  obtain ⟨u', rfl, h⟩ := cls_is hu
  refine (pimplied_c V w h hv hr).mono ?_
  rintro e w' ⟨rfl, hx⟩
  rw [pimpliedI_eq]
  exact ⟨_, rfl, hx, dT2_rd rfl rfl⟩
end Go.Proofs.Ytpiidgcljlalmaa
namespace Go.Proofs.Ytpiidgcljlalmaa
open Go.RowKit
def ArrG {α : Type} (R : Rel α) : Rel (List α) := fun P w v xs => Arr R P w v xs ∧ ∃ a, v = .slice a xs.length xs.length
instance {α : Type} (R : Rel α) [Good R] : Good (ArrG R) where
  weak := fun ⟨h, k⟩ q => ⟨Good.weak (R := Arr R) h q, k⟩
  move := fun ⟨h, k⟩ q => ⟨Good.move (R := Arr R) h q, k⟩
  bound := fun ⟨h, k⟩ => ⟨Good.bound (R := Arr R) h, k⟩
section
set_option linter.unusedSimpArgs false
variable {P : Program} {ops : Array Oper} {hp : List HObj} {o : Oper} {fr : List Dat} {d : Dat} {Q : Post} {rest : List Oper}
variable {dst : Option Tmp} {ty : TypeId} {ps : String} {af : Array Edge} {g : Option (Nat × Bool)}
variable {t e : TypeId} {bytes : Nat} {z : Value} {ag : Bool}
theorem run_slice3 (E : ElT P t e 1 z bytes ag) {w : World} {ad : Option Addr} {len cap h : Nat} (h2 : h ≤ cap) :
    (Instr.sliceAt t (.slice ad len cap) none (some (.int .i64 (h : Int))) (some (.int .i64 (h : Int)))).run P w = .ok (.slice (if h = 0 then ad else ad.map (·.add 0)) h h) w := by
  obtain ⟨i, hi', hz, hs, hb⟩ := info_parts E.info
  have a2 : (0 : Int) ≤ h ∧ (h : Int) ≤ (cap : Nat) := by omega
  simp [Instr.sliceAt, Instr.slice, run_underlying E.und, Instr.sliceBounds, Instr.sliceBound, asIntOf, sizeOf, typeInfo, hi', hs, h2]
theorem SY.full3 {x y y' : Operand} (E : ElT P t e 1 z bytes ag) {α : Type} {R : Rel α} {_gR : Good R} {xs : List α} {j j' : Int} (hx : OpD fr x (dS (Arr R) xs)) (hy : OpD fr y (dI j)) (hj : j = (xs.length : Int)) (hy' : OpD fr y' (dI j')) (hj' : j' = (xs.length : Int)) :
    SY P ops hp { dst := dst, op := .slice t x none (some y) (some y'), type := ty, pos := ps, after := af, guard := g } fr (dS (ArrG R) xs) := SY.val fun {I w a} ho => by
  have h1 : Arr R I w (a.eval x) xs := hx.get (by simp [Op.operands]) ho
  have h2 : a.eval y = .int .i64 (xs.length : Int) := hj ▸ hy.get (by simp [Op.operands]) ho
  have h3 : a.eval y' = .int .i64 (xs.length : Int) := hj' ▸ hy'.get (by simp [Op.operands]) ho
  have h1' := h1
  obtain ⟨ad, cap, hv, c1, c2, c3⟩ := h1
  have hr := run_slice3 (w := w) (ad := ad) (len := xs.length) E c1
  refine ⟨.slice (if xs.length = 0 then ad else ad.map (·.add 0)) xs.length xs.length, ?_, ?_⟩
  · unfold execOp
    simp only [hv, h2, h3, Option.map_none, Option.map_some, Sem.run_bind, hr, Result.andThen_ok, Sem.run_pure]
  · refine ⟨⟨_, _, rfl, Nat.le_refl _, by omega, fun k hk => ?_⟩, _, rfl⟩
    obtain ⟨u, b, off, r1, r2, rfl, r4, r5⟩ := c3 k hk
    refine ⟨u, b, off, r1, r2, ?_, r4, r5⟩
    rw [if_neg (by omega)]
    simp [Addr.add_lit]
theorem SY.appG {s y : Operand} (E : ElT P t e 1 z bytes ag) {α : Type} {R : Rel α} {_gR : Good R} {xs ys : List α} (hs : OpD fr s (dS (ArrG R) xs)) (hy : OpD fr y (dS (Arr R) ys)) (hy0 : 0 < ys.length) (hby : 0 < bytes) (hlen : (xs.length + ys.length) * bytes ≤ 140737488355328) :
    SY P ops hp { dst := dst, op := .call { callee := .builtin .append, args := #[s, y], argTypes := #[t, t] }, type := ty, pos := ps, after := af, guard := g } fr (dS (Arr R) (xs ++ ys)) := SY.valE fun {P0 B w0 w a} hh ho => by
  obtain ⟨h1, a1, hv1⟩ := hs.get (by simp [Op.operands, Call.operands]) ho
  have h2 : Arr R _ w (a.eval y) ys := hy.get (by simp [Op.operands, Call.operands]) ho
  obtain ⟨i, hi, hz, hsz, hb⟩ := info_parts E.info
  have hm : xs.length + ys.length ≤ maxLen := by
    have : (xs.length + ys.length) * 1 ≤ (xs.length + ys.length) * bytes := Nat.mul_le_mul_left _ hby
    simp only [maxLen]; omega
  have h1' := h1
  rw [hv1] at h1'
  have fin : ∀ v' w', (Builtin.append_ #[t, t] ty #[a.eval s, a.eval y]).run P w = .ok v' w' → Ext w w' → Arr R (Imm P0 B hp) w' v' (xs ++ ys) → ∃ v w', (execOp a.eval { dst := dst, op := .call { callee := .builtin .append, args := #[s, y], argTypes := #[t, t] }, type := ty, pos := ps, after := af, guard := g }).run P w = .ok (.value v) w' ∧ Ext w w' ∧ (dS (Arr R) (xs ++ ys)).rd (Imm P0 B hp) w' v := by
    intro v' w' hr hx hd
    refine ⟨v', w', ?_, hx, hd⟩
    unfold execOp
    simp only [resolve, invoke, builtin, List.map_toArray, List.map_cons, List.map_nil, Sem.run_bind, Sem.run_pure, Result.andThen_ok, hr]
  have h2' := h2
  obtain ⟨ad2, cap2, hv2, q1, q2, q3⟩ := h2
  have h0 : ys ≠ [] := fun h => by rw [h] at hy0; exact absurd hy0 (Nat.lt_irrefl 0)
  cases ad2 with
  | none =>
    obtain ⟨_, _, _, _, _, hc, _⟩ := q3 0 (List.length_pos_iff.2 h0)
    cases hc
  | some ad2 =>
    rw [hv2] at h2'
    obtain ⟨n1, nl, nc, ns, ne⟩ := arr_news h2'
    have key : ∃ (o1 : List Value) (v' : Value) (w' : World), o1.length = xs.length ∧ (∀ u ∈ o1, u.oneCell' = true) ∧ (∀ (k : Nat) (h : k < o1.length) (h' : k < xs.length), R (Imm P0 B hp) w o1[k] xs[k]) ∧ (Builtin.append_ #[t, t] ty #[a.eval s, a.eval y]).run P w = .ok v' w' ∧ w'.ownsRow w.heap.size e 1 v' (xs.length + ys.length) (o1 ++ n1) ∧ w.grownBy w' none := by
      cases a1 with
      | none =>
        have hx0 : xs = [] := by
          obtain ⟨ad0, cap0, hvv, _, _, d3⟩ := h1'
          cases hvv
          cases xs with
          | nil => rfl
          | cons x xs => obtain ⟨_, _, _, _, _, hc, _⟩ := d3 0 (by simp); cases hc
        subst hx0
        obtain ⟨v', w', hr, r1, r2, r3⟩ := run_append_own_at (P := P) w w.heap.size t ty e i z 1 bytes E.und hi hz hsz hb E.zs Nat.one_pos (.slice none 0 0) 0 [] (World.ownsRow_nil w _ e 1) ad2 ys.length cap2 n1 (by omega) nc ns (by simpa using hm) (by simpa using hlen) (Nat.le_refl _)
        exact ⟨[], v', w', rfl, (fun u hu => by cases hu), (fun k h => absurd h (Nat.not_lt_zero k)), by rw [hv1, hv2]; exact hr, by simpa using r1, r2⟩
      | some a1 =>
        obtain ⟨o1, ol, oc, os, oe⟩ := arr_news h1'
        obtain ⟨v', w', hr, hown, hgr⟩ := run_append_arg_grows (P := P) w t ty e i z 1 bytes E.und hi hz hsz hb E.zs Nat.one_pos a1 xs.length xs.length o1 (by rw [ol, Nat.mul_one]) oc ad2 ys.length cap2 n1 (by rw [nl, Nat.mul_one]) nc (by omega) hm hlen
        exact ⟨o1, v', w', ol, os, oe, by rw [hv1, hv2]; exact hr, hown, hgr⟩
    obtain ⟨o1, v', w', ol, os, oe, hr, hown, hgr⟩ := key
    have hx : Ext w w' := ⟨hgr.os, hgr.tape, hgr.output, hgr.size, fun k hk => hgr.block k hk (by simp)⟩
    refine fin v' w' hr hx ?_
    obtain ⟨a3, cap3, hv3, d1, d2, d3⟩ := ownsRow_shape hown
    refine ⟨a3, cap3, by rw [List.length_append]; exact hv3, by rw [List.length_append]; exact d1, d2, fun k hk => ?_⟩
    have hkl : k < (o1 ++ n1).length := by rw [List.length_append] at hk ⊢; omega
    have h1c : (o1 ++ n1)[k].oneCell' = true := by
      rcases List.mem_append.1 (List.getElem_mem hkl) with h | h
      · exact os _ h
      · exact ns _ h
    obtain ⟨gb, ha, _, hB, hc'⟩ := d3 k (o1 ++ n1)[k] (List.getElem?_eq_getElem hkl)
    have hR : R (Imm P0 B hp) w (o1 ++ n1)[k] (xs ++ ys)[k] := by
      by_cases hk1 : k < o1.length
      · rw [List.getElem_append_left hk1, List.getElem_append_left (by omega)]
        exact oe k hk1 (by omega)
      · rw [List.getElem_append_right (by omega), List.getElem_append_right (by omega)]
        have := ne (k - o1.length) (by rw [List.length_append] at hkl; omega) (by rw [List.length_append] at hk; omega)
        have e3 : k - o1.length = k - xs.length := by rw [ol]
        simp only [e3] at this ⊢
        exact this
    exact ⟨(o1 ++ n1)[k], gb, 0, Good.ext (R := R) hR hx, h1c, ha, hh.fresh hB, by rw [Nat.zero_add]; exact hc'⟩
end
end Go.Proofs.Ytpiidgcljlalmaa
