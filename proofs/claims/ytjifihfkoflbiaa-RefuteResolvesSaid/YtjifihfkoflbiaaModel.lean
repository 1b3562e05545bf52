/-
  The law package's model and negated; clauses.Eval: a model made of bits, and what it makes true.
-/
import Derived.Test.YtjifihfkoflbiaaLawA
import Derived.Test.YtjifihfkoflbiaaLaw42c
namespace Go.Proofs.Ytjifihfkoflbiaa
open Go.RowKit

set_option maxHeartbeats 1000000 in
theorem lneg_c {P : Nat → Prop} {u : Value} {c : List Int} (w : World) (hu : Ints P w u c) (hsm : c.length ≤ 1000000) :
    Calls Try.prog 28 #[u] w (RetP (fun w' v => Own w.heap.size 3 RI noB w' v (negI c)) w) := by
  have hle := hu.le
  go_enter Try.func28, Try.ntmps28
  go_wp2_with ((with_reducible refine w_len elI.und ?_ ?_ hu.len ?_); (· rfl); (· rfl); simp only [Act.put, List.setIfInBounds_toArray, List.set_cons_succ, List.set_cons_zero])
  go_loopw [3, 8] (fun x i wr => ∃ (k : Nat) (acc : List Int), k ≤ c.length ∧ acc.length ≤ k ∧ i = .int .i64 k ∧ Hid (acc ++ negI (c.drop k) = negI c) ∧ Own w.heap.size 3 RI noB wr x acc ∧ Ext w wr) (fun _ i _ => c.length - (intOf i).toNat)
  case atStart => exact ⟨0, [], Nat.zero_le _, Nat.le_refl _, rfl, rfl, Own.nil, Ext.refl _⟩
  case round =>
    obtain ⟨k, acc, hk, hacc, rfl, hn, ho, hx⟩ := hrel
    have hu' := hu.ext hx
    have hla : acc.length ≤ 1000000000 := by omega
    by_cases hlt : k < c.length
    · have hst := Lib.hid (negI_step hlt)
      go_wp2_with (first | ((with_reducible refine w_ixI elI ?_ ?_ ?_ ?_ ?_ hu' hlt ?_); (· rfl); (· exact fun _ => rfl); (· exact fun _ => rfl); (· rfl); (· rfl); intro _; simp only [Act.put, List.setIfInBounds_toArray, List.set_cons_succ, List.set_cons_zero]) | ((with_reducible refine w_pushI elI ?_ ?_ ?_ ((wrap64 (-c[k]))) ?_ ho hx.size hla ?_); (· exact fun _ => rfl); (· rfl); (· rfl); (· rfl); rintro _ v' w' ho' hb' _ _; simp only [Act.put, List.setIfInBounds_toArray, List.set_cons_succ, List.set_cons_zero]))
      go_roundw
      case rel => exact ⟨k + 1, acc ++ [wrap64 (-c[k])], hlt, by simp; omega, by go_num, by show _ = _; rw [← hn.out, hst.out, List.append_assoc]; rfl, ho', Below.trans hx hb'⟩
      case measure => simp [intOf]; omega
    · obtain rfl : k = c.length := by omega
      go_wp2
      go_ret
      refine ⟨_, rfl, ?_, hx⟩
      have e := hn.out
      rw [List.drop_length] at e
      have e2 : acc = negI c := by rw [← e]; simp [negI]
      rw [← e2]; exact ho

/-- a bit -/
def bitT (bits : Int) (k : Nat) : Bool := Go.bits BinOp.and IntKind.u16 (bits / 2 ^ k) 1 == 1
/-- a model made of bits -/
def modelI (n : Nat) (bits : Int) : List Int := (List.range n).map fun k => if bitT bits k = true then (k : Int) + 1 else -((k : Int) + 1)
theorem modelI_succ (n : Nat) (bits : Int) : modelI (n + 1) bits = modelI n bits ++ [if bitT bits n = true then (n : Int) + 1 else -((n : Int) + 1)] := by
  unfold modelI; rw [List.range_succ, List.map_append]; rfl
theorem modelI_length (n : Nat) (bits : Int) : (modelI n bits).length = n := by simp [modelI]
theorem modelI_get {n : Nat} {bits : Int} {k : Nat} (h : k < (modelI n bits).length) : (modelI n bits)[k] = if bitT bits k = true then (k : Int) + 1 else -((k : Int) + 1) := by simp [modelI]
theorem modelI_modl (n : Nat) (bits : Int) : Modl n (modelI n bits) := by
  have hmem : ∀ x, x ∈ modelI n bits ↔ ∃ k, k < n ∧ x = if bitT bits k = true then (k : Int) + 1 else -((k : Int) + 1) := by
    intro x
    simp only [modelI, List.mem_map, List.mem_range]
    constructor
    · rintro ⟨k, hk, rfl⟩; exact ⟨k, hk, rfl⟩
    · rintro ⟨k, hk, rfl⟩; exact ⟨k, hk, rfl⟩
  refine ⟨fun x hx hn => ?_, fun x hx hxn => ?_⟩
  · obtain ⟨k, hk, e1⟩ := (hmem x).1 hx
    obtain ⟨j, hj, e2⟩ := (hmem (-x)).1 hn
    by_cases h1 : bitT bits k = true <;> by_cases h2 : bitT bits j = true <;> simp only [h1, h2, if_true] at e1 e2
    · omega
    · have : k = j := by omega
      subst this; exact h2 h1
    · have : k = j := by omega
      subst this; exact h1 h2
    · simp at e1 e2; omega
  · by_cases hb : bitT bits (x.natAbs - 1) = true
    · by_cases hp : 0 < x
      · exact .inl ((hmem x).2 ⟨x.natAbs - 1, by omega, by rw [if_pos hb]; omega⟩)
      · exact .inr ((hmem (-x)).2 ⟨x.natAbs - 1, by omega, by rw [if_pos hb]; omega⟩)
    · by_cases hp : 0 < x
      · exact .inr ((hmem (-x)).2 ⟨x.natAbs - 1, by omega, by rw [if_neg hb]; omega⟩)
      · exact .inl ((hmem x).2 ⟨x.natAbs - 1, by omega, by rw [if_neg hb]; omega⟩)

set_option maxRecDepth 10000 in
set_option maxHeartbeats 1000000 in
theorem model_c (n : Nat) (bits : Int) (w : World) (hn : n ≤ 14) :
    Calls Try.prog 29 #[.int .i64 (n : Int), .int .u16 bits] w (RetP (fun w' v => Own w.heap.size 3 RI noB w' v (modelI n bits)) w) := by
  go_enter Try.func29, Try.ntmps29
  go_wp2
  go_loopw [5, 6] (fun x i wr => ∃ (k : Nat), k ≤ n ∧ i = .int .i64 ((k : Int) + 1) ∧ Own w.heap.size 3 RI noB wr x (modelI k bits) ∧ Ext w wr) (fun _ i _ => n + 1 - (intOf i).toNat)
  case atStart => exact ⟨0, Nat.zero_le _, rfl, Own.nil, Ext.refl _⟩
  case round =>
    obtain ⟨k, hk, rfl, ho, hx⟩ := hrel
    have hla : (modelI k bits).length ≤ 1000000000 := by rw [modelI_length]; omega
    by_cases hlt : k < n
    · have hle : (k : Int) + 1 ≤ (n : Int) := by omega
      have hsu := Lib.hid (modelI_succ k bits)
      cases hb : bitT bits k
      · have hb' : (Go.bits BinOp.and IntKind.u16 (bits / 2 ^ k) 1 == 1) = false := hb
        have Hb := Lib.hid hb
        clear hb
        go_wp2_with ((with_reducible refine w_pushI elI ?_ ?_ ?_ ((-((k : Int) + 1))) ?_ ho hx.size hla ?_); (· exact fun _ => rfl); (· rfl); (· rfl); (· rfl); rintro _ v' w' ho' hb2 _ _; simp only [Act.put, List.setIfInBounds_toArray, List.set_cons_succ, List.set_cons_zero])
        go_roundw
        case rel => exact ⟨k + 1, hlt, by go_num, by rw [hsu.out, if_neg (by simp [Hb.out])]; exact ho', Below.trans hx hb2⟩
        case measure => simp [intOf]; omega
      · have hb' : (Go.bits BinOp.and IntKind.u16 (bits / 2 ^ k) 1 == 1) = true := hb
        have Hb := Lib.hid hb
        clear hb
        go_wp2_with ((with_reducible refine w_pushI elI ?_ ?_ ?_ (((k : Int) + 1)) ?_ ho hx.size hla ?_); (· exact fun _ => rfl); (· rfl); (· rfl); (· rfl); rintro _ v' w' ho' hb2 _ _; simp only [Act.put, List.setIfInBounds_toArray, List.set_cons_succ, List.set_cons_zero])
        go_roundw
        case rel => exact ⟨k + 1, hlt, by go_num, by rw [hsu.out, if_pos Hb.out]; exact ho', Below.trans hx hb2⟩
        case measure => simp [intOf]; omega
    · obtain rfl : k = n := by omega
      go_wp2
      go_ret
      exact ⟨_, rfl, ho, hx⟩

end Go.Proofs.Ytjifihfkoflbiaa
