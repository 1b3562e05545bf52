/-
  Colors of simplices as sets of bits; a simplex divided by a set of colors.
-/
import Derived.Test.YtjojmdngogineaaS26b
import Derived.Test.YtjojmdngogineaaS26e
namespace Go.Proofs.Ytjojmdngogineaa
theorem wrap_nat {n : Nat} (h : n < 9223372036854775808) : IntKind.i64.wrap (n : Int) = n := by rw [IntKind.wrap_i64]; omega
theorem bv_nat (n : Nat) : (BitVec.ofInt 64 (n : Int)) = BitVec.ofNat 64 n := by simp
theorem iand_nat {a b : Nat} (ha : a < 256) (hb : b < 256) : iand (a : Int) (b : Int) = (a &&& b : Nat) := by
  unfold iand
  have h : a &&& b < 256 := Nat.lt_of_le_of_lt Nat.and_le_left ha
  rw [bv_nat, bv_nat, BitVec.toNat_and, BitVec.toNat_ofNat, BitVec.toNat_ofNat, Nat.mod_eq_of_lt (by omega), Nat.mod_eq_of_lt (by omega)]
  exact wrap_nat (by omega)
theorem ior_nat {a b : Nat} (ha : a < 256) (hb : b < 256) : ior (a : Int) (b : Int) = (a ||| b : Nat) := by
  unfold ior
  have h : a ||| b < 2 ^ 8 := Nat.or_lt_two_pow ha hb
  rw [bv_nat, bv_nat, BitVec.toNat_or, BitVec.toNat_ofNat, BitVec.toNat_ofNat, Nat.mod_eq_of_lt (by omega), Nat.mod_eq_of_lt (by omega)]
  exact wrap_nat (by omega)
theorem ishl_nat {k : Nat} (hk : k < 8) : ishl 1 (k : Int) = (2 ^ k : Nat) := by
  unfold ishl
  have h : 2 ^ k < 2 ^ 8 := Nat.pow_lt_pow_right (by decide) hk
  rw [Int.toNat_natCast, Nat.min_eq_left (by omega), Int.one_mul]
  have : ((2 : Int) ^ k) = ((2 ^ k : Nat) : Int) := by simp
  rw [this]
  exact wrap_nat (by omega)
theorem ishr_nat {a k : Nat} (hk : k < 8) : ishr (a : Int) (k : Int) = (a >>> k : Nat) := by
  unfold ishr
  rw [Int.toNat_natCast, Nat.min_eq_left (by omega), Nat.shiftRight_eq_div_pow]
  have : ((2 : Int) ^ k) = ((2 ^ k : Nat) : Int) := by simp
  rw [this, Int.fdiv_eq_ediv_of_nonneg _ (Int.natCast_nonneg _)]
  rfl
theorem bit_nat {a k : Nat} (ha : a < 256) (hk : k < 8) : (iand (ishr (a : Int) (k : Int)) 1 = 1) ↔ a.testBit k = true := by
  have h1 : a >>> k < 256 := Nat.lt_of_le_of_lt (Nat.shiftRight_le _ _) ha
  rw [ishr_nat hk, show (1 : Int) = ((1 : Nat) : Int) from rfl, iand_nat h1 (by decide)]
  rw [Int.natCast_inj]
  unfold Nat.testBit
  rw [Nat.and_comm 1]
  have h2 : a >>> k &&& 1 = (a >>> k) % 2 := Nat.and_one_is_mod _
  rw [h2]
  simp
/-- the colors of simplices are small -/
def Col (s : List Vx) : Prop := ∀ v ∈ s, ∃ k : Nat, k < 8 ∧ v.1 = k
theorem col_good {s : List Vx} (h : chkV s = 0) : Col s := fun v hv => by
  have := rngV_iff.1 ((chkV_zero.1 h).2.2.1 v hv)
  exact ⟨v.1.toNat, by omega, by omega⟩
theorem col_sub {s t : List Vx} (h : Col s) (ht : t.Sublist s) : Col t := fun v hv => h v (ht.subset hv)
/-- the set of the colors, as a number -/
def maskN (s : List Vx) : Nat := s.foldl (fun m v => m ||| 2 ^ v.1.toNat) 0
theorem mask_go : ∀ (s : List Vx) (m : Nat), m < 256 → Col s → s.foldl (fun m v => ior m (ishl 1 v.1)) (m : Int) = (s.foldl (fun m v => m ||| 2 ^ v.1.toNat) m : Nat) ∧ s.foldl (fun m v => m ||| 2 ^ v.1.toNat) m < 256 ∧
    ∀ i, (s.foldl (fun m v => m ||| 2 ^ v.1.toNat) m).testBit i = (m.testBit i || s.any fun v => decide (v.1 = (i : Int)))
  | [], m, hm, _ => by simp [hm]
  | v :: s, m, hm, hs => by
    obtain ⟨k, hk, hv⟩ := hs v (by simp)
    have h1 : 2 ^ k < 2 ^ 8 := Nat.pow_lt_pow_right (by decide) hk
    have h2 : m ||| 2 ^ k < 2 ^ 8 := Nat.or_lt_two_pow hm h1
    have ih := mask_go s (m ||| 2 ^ k) h2 (fun x hx => hs x (by simp [hx]))
    simp only [List.foldl_cons]
    rw [hv, ishl_nat hk, ior_nat hm h1]
    have e : (k : Int).toNat = k := Int.toNat_natCast k
    rw [e]
    refine ⟨ih.1, ih.2.1, fun i => ?_⟩
    rw [ih.2.2 i, Nat.testBit_or, Nat.testBit_two_pow, List.any_cons, hv]
    have : decide (k = i) = decide ((k : Int) = (i : Int)) := by rw [Bool.eq_iff_iff, decide_eq_true_eq, decide_eq_true_eq]; omega
    rw [this, Bool.or_assoc]
theorem maskV_nat {s : List Vx} (h : Col s) : maskV s = maskN s := by have := (mask_go s 0 (by decide) h).1; simpa [maskV, maskN] using this
theorem maskN_lt {s : List Vx} (h : Col s) : maskN s < 256 := (mask_go s 0 (by decide) h).2.1
theorem maskN_bit {s : List Vx} (h : Col s) (i : Nat) : (maskN s).testBit i = s.any fun v => decide (v.1 = (i : Int)) := by have := (mask_go s 0 (by decide) h).2.2 i; simpa [maskN] using this
/-- whether a set has a vertex's color -/
def hasC (c : Nat) (v : Vx) : Bool := c.testBit v.1.toNat
theorem colP_nat {c : Nat} (hc : c < 256) {s : List Vx} (h : Col s) : coloredV s c = s.filter (hasC c) := List.filter_congr fun v hv => by
  obtain ⟨k, hk, e⟩ := h v hv
  unfold colP hasC
  rw [e, Int.toNat_natCast, Bool.eq_iff_iff, decide_eq_true_eq, bit_nat hc hk]
theorem compl_bit {c k : Nat} (hc : c < 256) (hk : k < 8) : (255 - c).testBit k = !c.testBit k := by
  have : 255 - c = 2 ^ 8 - (c + 1) := by omega
  rw [this, Nat.testBit_two_pow_sub_succ (by omega)]
  simp [hk]
theorem hasC_compl {c : Nat} (hc : c < 256) {s : List Vx} (h : Col s) : s.filter (hasC (255 - c)) = s.filter fun v => !hasC c v := List.filter_congr fun v hv => by
  obtain ⟨k, hk, e⟩ := h v hv
  unfold hasC
  rw [e, Int.toNat_natCast, compl_bit hc hk]
theorem filter_len {α : Type} (p : α → Bool) : ∀ (s : List α), (s.filter p).length + (s.filter fun v => !p v).length = s.length
  | [] => rfl
  | v :: s => by
    have := filter_len p s
    cases h : p v <;> simp [h] <;> omega
theorem mask_none {c : Nat} (hc : c < 256) {s : List Vx} (h : Col s) : (s.filter (hasC c)).length = 0 ↔ iand (maskN s) c = 0 := by
  rw [iand_nat (maskN_lt h) hc]
  rw [show (0 : Int) = ((0 : Nat) : Int) from rfl, Int.natCast_inj]
  constructor
  · intro h0
    have h1 := List.eq_nil_of_length_eq_zero h0
    apply Nat.eq_of_testBit_eq
    intro i
    rw [Nat.testBit_and, Nat.zero_testBit, maskN_bit h]
    rw [Bool.and_eq_false_iff]
    by_cases hi : c.testBit i = true
    · left
      rw [List.any_eq_false]
      intro v hv hvi
      have hvi' : v.1 = (i : Int) := by simpa using hvi
      have : v ∈ s.filter (hasC c) := List.mem_filter.2 ⟨hv, by unfold hasC; rw [hvi', Int.toNat_natCast]; exact hi⟩
      rw [h1] at this
      cases this
    · right; simpa using hi
  · intro h0
    rw [List.length_eq_zero_iff, List.filter_eq_nil_iff]
    intro v hv hc'
    obtain ⟨k, hk, e⟩ := h v hv
    have h1 : (maskN s &&& c).testBit k = false := by rw [h0]; exact Nat.zero_testBit k
    rw [Nat.testBit_and, maskN_bit h] at h1
    unfold hasC at hc'
    rw [e, Int.toNat_natCast] at hc'
    rw [hc', Bool.and_true, List.any_eq_false] at h1
    exact h1 v hv (by simp [e])
theorem mask_or {c : Nat} {s : List Vx} (h : Col s) : maskN (s.filter (hasC c)) ||| maskN (s.filter fun v => !hasC c v) = maskN s := by
  apply Nat.eq_of_testBit_eq
  intro i
  rw [Nat.testBit_or, maskN_bit (col_sub h List.filter_sublist), maskN_bit (col_sub h List.filter_sublist), maskN_bit h, Bool.eq_iff_iff, Bool.or_eq_true]
  simp only [List.any_eq_true, List.mem_filter, decide_eq_true_eq]
  constructor
  · rintro (⟨v, ⟨h1, _⟩, h2⟩ | ⟨v, ⟨h1, _⟩, h2⟩) <;> exact ⟨v, h1, h2⟩
  · rintro ⟨v, h1, h2⟩
    cases hv : hasC c v with
    | true => exact .inl ⟨v, ⟨h1, hv⟩, h2⟩
    | false => exact .inr ⟨v, ⟨h1, by simp [hv]⟩, h2⟩
theorem mask_and {c : Nat} {s : List Vx} (h : Col s) : maskN (s.filter (hasC c)) &&& maskN (s.filter fun v => !hasC c v) = 0 := by
  apply Nat.eq_of_testBit_eq
  intro i
  rw [Nat.testBit_and, Nat.zero_testBit, maskN_bit (col_sub h List.filter_sublist), maskN_bit (col_sub h List.filter_sublist), Bool.and_eq_false_iff]
  cases hi : c.testBit i with
  | true =>
    right
    rw [List.any_eq_false]
    intro v hv hvi
    have hvi' : v.1 = (i : Int) := by simpa using hvi
    have := (List.mem_filter.1 hv).2
    unfold hasC at this
    rw [hvi', Int.toNat_natCast, hi] at this
    cases this
  | false =>
    left
    rw [List.any_eq_false]
    intro v hv hvi
    have hvi' : v.1 = (i : Int) := by simpa using hvi
    have := (List.mem_filter.1 hv).2
    unfold hasC at this
    rw [hvi', Int.toNat_natCast, hi] at this
    cases this
/-- the parts make the whole -/
theorem parts_shared {p : Vx → Bool} {s : List Vx} : (sharedV (s.filter p) (s.filter fun v => !p v) true).length = 0 := by
  rw [List.length_eq_zero_iff, List.eq_nil_iff_forall_not_mem]
  intro x hx
  obtain ⟨h1, h2⟩ := mem_shared.1 hx
  rw [decide_eq_true_eq] at h2
  have h3 := (List.mem_filter.1 h1).2
  have h4 := (List.mem_filter.1 h2).2
  rw [h3] at h4; cases h4
theorem parts_all {p : Vx → Bool} {s : List Vx} (hs : Asc s) : allV (s.filter p) (s.filter fun v => !p v) = s :=
  asc_ext (asc_allV (List.Pairwise.sublist List.filter_sublist hs)) hs fun x => by
    rw [mem_allV, List.mem_filter, List.mem_filter]
    cases p x <;> simp
/-- how many colors -/
def cntB (m k : Nat) : Nat := (List.range k).countP fun i => m.testBit i
theorem cntB_snoc (m k : Nat) : cntB m (k + 1) = cntB m k + (if m.testBit k = true then 1 else 0) := by
  unfold cntB
  rw [List.range_succ, List.countP_append]
  simp [List.countP_cons]
theorem cntB_le (m k : Nat) : cntB m k ≤ k := Nat.le_trans List.countP_le_length (by simp)
theorem cntB_any : ∀ (k : Nat) (p : Nat → Bool) (a : Nat), a < k → (List.range k).countP (fun i => decide (a = i) || p i) = (List.range k).countP p + (if p a = true then 0 else 1)
  | 0, _, _, h => by omega
  | k + 1, p, a, h => by
    rw [List.range_succ, List.countP_append, List.countP_append]
    by_cases ha : a < k
    · rw [cntB_any k p a ha]
      have hne : a ≠ k := by omega
      simp [List.countP_cons, hne]
      omega
    · have hk : a = k := by omega
      subst hk
      have e : (List.range a).countP (fun i => decide (a = i) || p i) = (List.range a).countP p := List.countP_congr fun i hi => by
        have : a ≠ i := by have := List.mem_range.1 hi; omega
        simp [this]
      rw [e]
      simp [List.countP_cons]
      split <;> simp_all <;> omega
theorem cnt_colors : ∀ (s : List Vx), Col s → Asc s → (List.range 8).countP (fun i : Nat => s.any fun v => decide (v.1 = (i : Int))) ≤ s.length ∧ (diffV s = decide ((List.range 8).countP (fun i : Nat => s.any fun v => decide (v.1 = (i : Int))) = s.length))
  | [], _, _ => by simp [diffV]
  | u :: s, hc, ha => by
    obtain ⟨k, hk, e⟩ := hc u (by simp)
    obtain ⟨h1, h2⟩ := List.pairwise_cons.1 ha
    obtain ⟨i1, i2⟩ := cnt_colors s (fun v hv => hc v (by simp [hv])) h2
    have e1 : (List.range 8).countP (fun i : Nat => (u :: s).any fun v => decide (v.1 = (i : Int))) = (List.range 8).countP (fun i : Nat => decide (k = i) || s.any fun v => decide (v.1 = (i : Int))) := by
      congr 1
      funext i
      rw [List.any_cons, e]
      congr 1
      rw [Bool.eq_iff_iff, decide_eq_true_eq, decide_eq_true_eq]; omega
    rw [e1, cntB_any 8 _ k hk]
    have hle : ∀ v ∈ s, u.1 ≤ v.1 := fun v hv => by
      have := h1 v hv
      unfold cmpV at this
      split at this
      · omega
      · split at this
        · omega
        · omega
    refine ⟨by simp only [List.length_cons]; split <;> omega, ?_⟩
    cases s with
    | nil => simp [diffV]
    | cons v s =>
      unfold diffV
      by_cases huv : u.1 = v.1
      · rw [if_pos huv]
        have : (List.any (v :: s) fun v => decide (v.1 = (k : Int))) = true := by rw [List.any_cons, ← e, huv]; simp
        rw [if_pos this]
        symm
        rw [decide_eq_false_iff_not]
        simp only [List.length_cons] at i1 ⊢
        omega
      · rw [if_neg huv, i2]
        have hlt : u.1 < v.1 := by have := hle v (by simp); omega
        obtain ⟨h3, h4⟩ := List.pairwise_cons.1 h2
        have hno : (List.any (v :: s) fun v => decide (v.1 = (k : Int))) = false := by
          rw [List.any_eq_false]
          intro x hx hxk
          have hxk' : x.1 = (k : Int) := by simpa using hxk
          rcases List.mem_cons.1 hx with rfl | hx
          · omega
          · have := h3 x hx
            have hvx : v.1 ≤ x.1 := by
              unfold cmpV at this
              split at this
              · omega
              · split at this
                · omega
                · omega
            omega
        rw [hno]
        simp only [Bool.false_eq_true, if_false, List.length_cons]
        rw [Bool.eq_iff_iff, decide_eq_true_eq, decide_eq_true_eq]
        omega
theorem diff_cnt {s : List Vx} (h : chkV s = 0) : diffV s = decide (cntB (maskN s) 8 = s.length) := by
  rw [(cnt_colors s (col_good h) (chkV_zero.1 h).2.2.2).2]
  unfold cntB
  have : (fun i => (maskN s).testBit i) = fun i : Nat => s.any fun v => decide (v.1 = (i : Int)) := by funext i; exact maskN_bit (col_good h) i
  rw [this]
end Go.Proofs.Ytjojmdngogineaa
