/-
  RefuteResolves: if each model is excluded by a clause, the clauses that exclude the beginnings of models are a refutation.
-/
import Derived.Test.YtjifihfkoflbiaaModel
import Derived.Test.YtjifihfkoflbiaaRegA
import Derived.Deep.RegionLaw
namespace Go.Proofs.Ytjifihfkoflbiaa
open Go.ChangeShapes Go.WideShapes Go.ChangeAt Go.RowKit

/-- the clause that excludes a model -/
def exclC (n : Nat) (bits : Int) : List Int := negI (modelI n bits)
/-- the clauses that exclude the models before one -/
def exclI (n : Nat) (skip : Int) (k : Nat) : List (List Int) := ((List.range k).filter fun b : Nat => !(n == 4 && (b : Int) == skip)).map fun b : Nat => exclC n (b : Int)
def rowI (k j : Nat) : List (List Int) := (List.range j).map fun b : Nat => exclC k (b : Int)
/-- the clauses that exclude the beginnings of models, from the longest ones on, before one -/
def proofI (n : Nat) : Nat → List (List Int)
  | 0 => []
  | j + 1 => proofI n j ++ rowI (n - 1 - j) (2 ^ (n - 1 - j))

theorem resolves_plain (n : Nat) (h1 : 1 ≤ n) (h4 : n ≤ 4) (skip : Int) : ((exclI n skip (2 ^ n)).length = 2 ^ n → verifyI n (exclI n skip (2 ^ n)) (proofI n n) = (0, 0)) ∧
    ((exclI n skip (2 ^ n)).length ≠ 2 ^ n → (verifyI n (exclI n skip (2 ^ n)) (proofI n n)).2 = 18 ∧ (verifyI n (exclI n skip (2 ^ n)) (proofI n n)).1 < (proofI n n).length) := by
  have hfull : ∀ m : Nat, (m ≠ 4 ∨ skip < 0 ∨ 16 ≤ skip) → m ≤ 4 → exclI m skip (2 ^ m) = rowI m (2 ^ m) := by
    intro m hm hm4
    unfold exclI rowI
    rw [List.filter_eq_self.2]
    intro b hb
    rw [List.mem_range] at hb
    by_cases h : m = 4
    · subst h
      have hb' : b < 16 := hb
      have : (b : Int) ≠ skip := by rcases hm with h | h | h <;> omega
      simp [this]
    · simp [h]
  have c1 : (rowI 1 (2 ^ 1)).length = 2 ^ 1 ∧ verifyI 1 (rowI 1 (2 ^ 1)) (proofI 1 1) = (0, 0) := by constructor <;> kernel_rfl
  have c2 : (rowI 2 (2 ^ 2)).length = 2 ^ 2 ∧ verifyI 2 (rowI 2 (2 ^ 2)) (proofI 2 2) = (0, 0) := by constructor <;> kernel_rfl
  have c3 : (rowI 3 (2 ^ 3)).length = 2 ^ 3 ∧ verifyI 3 (rowI 3 (2 ^ 3)) (proofI 3 3) = (0, 0) := by constructor <;> kernel_rfl
  have c4 : (rowI 4 (2 ^ 4)).length = 2 ^ 4 ∧ verifyI 4 (rowI 4 (2 ^ 4)) (proofI 4 4) = (0, 0) := by constructor <;> kernel_rfl
  have cs : ∀ s : Fin 16, (exclI 4 (s.val : Int) (2 ^ 4)).length ≠ 2 ^ 4 ∧ (verifyI 4 (exclI 4 (s.val : Int) (2 ^ 4)) (proofI 4 4)).2 = 18 ∧ (verifyI 4 (exclI 4 (s.val : Int) (2 ^ 4)) (proofI 4 4)).1 < (proofI 4 4).length := by
    decide +kernel
  by_cases hs : n ≠ 4 ∨ skip < 0 ∨ 16 ≤ skip
  · rw [hfull n hs h4]
    have hn : n = 1 ∨ n = 2 ∨ n = 3 ∨ n = 4 := by omega
    rcases hn with rfl | rfl | rfl | rfl
    · exact ⟨fun _ => c1.2, fun h => absurd c1.1 h⟩
    · exact ⟨fun _ => c2.2, fun h => absurd c2.1 h⟩
    · exact ⟨fun _ => c3.2, fun h => absurd c3.1 h⟩
    · exact ⟨fun _ => c4.2, fun h => absurd c4.1 h⟩
  · have hn4 : n = 4 := by omega
    subst hn4
    obtain ⟨s, rfl⟩ : ∃ s : Nat, skip = (s : Int) := ⟨skip.toNat, by omega⟩
    have := cs ⟨s, by omega⟩
    exact ⟨fun h => absurd h this.1, fun _ => this.2⟩

theorem exclI_skip {n : Nat} {skip : Int} {k : Nat} (h : n = 4) (h2 : (k : Int) = skip) : exclI n skip (k + 1) = exclI n skip k := by
  unfold exclI
  rw [List.range_succ, List.filter_append]
  simp [h, h2]
theorem exclI_next {n : Nat} {skip : Int} {k : Nat} (h : n ≠ 4 ∨ (k : Int) ≠ skip) : exclI n skip (k + 1) = exclI n skip k ++ [exclC n (k : Int)] := by
  unfold exclI
  rw [List.range_succ, List.filter_append, List.map_append]
  congr 1
  rcases h with h | h <;> simp [h]
theorem exclI_length (n : Nat) (skip : Int) (k : Nat) : (exclI n skip k).length ≤ k := by
  unfold exclI
  rw [List.length_map]
  exact Nat.le_trans (List.length_filter_le _ _) (by simp)
theorem rowI_succ (k j : Nat) : rowI k (j + 1) = rowI k j ++ [exclC k (j : Int)] := by
  unfold rowI; rw [List.range_succ, List.map_append]; rfl
theorem rowI_length (k j : Nat) : (rowI k j).length = j := by simp [rowI]
theorem exclC_irr (n : Nat) (b : Int) : ∀ x ∈ exclC n b, IR x := by
  intro x hx
  unfold exclC negI at hx
  rw [List.mem_map] at hx
  obtain ⟨y, _, rfl⟩ := hx
  unfold IR wrap64
  omega
theorem exclI_irr (n : Nat) (skip : Int) (k : Nat) : IRR (exclI n skip k) := by
  intro c hc
  unfold exclI at hc
  rw [List.mem_map] at hc
  obtain ⟨b, _, rfl⟩ := hc
  exact exclC_irr n b

theorem push_elem {α : Type} {R : Rel α} {B : Nat} {e e' : TypeId} {PB P' : Nat → Prop} {wr w2 w3 : World} {v y : Value} {L : List α} {ys : List Int} (ho : Own (B + 1) e R PB wr v L) (h : Own w2.heap.size e' RI P' w3 y ys) (hB : B < w2.heap.size) (hs : wr.heap.size ≤ w2.heap.size) : Ints (fun b => B < b ∧ v.ownBlock ≠ some b) w3 y ys :=
  Good.weak (R := Ints) (h.ints (P' := noB)).arr fun b hb => by
    have hb' : w2.heap.size ≤ b := hb.resolve_left (fun h => h)
    exact ⟨by omega, fun hc => by have := (ho.lt b hc).2; omega⟩

theorem push_any {α : Type} {R : Rel α} {B : Nat} {e e' : TypeId} {PB P' : Nat → Prop} {wr w2 w3 : World} {v y : Value} {L : List α} {ys : List Int} (ho : Own B e R PB wr v L) (h : Own w2.heap.size e' RI P' w3 y ys) (hs : wr.heap.size ≤ w2.heap.size) : Ints (fun b => anyB b ∧ v.ownBlock ≠ some b) w3 y ys :=
  Good.weak (R := Ints) (h.ints (P' := noB)).arr fun b hb => by
    have hb' : w2.heap.size ≤ b := hb.resolve_left (fun h => h)
    exact ⟨trivial, fun hc => by have := (ho.lt b hc).2; omega⟩
theorem proofI_length : ∀ (n j : Nat), n ≤ 4 → (proofI n j).length ≤ 16 * j
  | _, 0, _ => by simp [proofI]
  | n, j + 1, h => by
    simp only [proofI, List.length_append, rowI_length]
    have h1 := proofI_length n j h
    have h2 : 2 ^ (n - 1 - j) ≤ 2 ^ 4 := Nat.pow_le_pow_right (by decide) (by omega)
    omega
/-- the box of clauses behind a store of its list -/
theorem box_set {w w5 : World} {B : Nat} {e : TypeId} {x z v : Value} {L : List (List Int)} (h0 : w5.cell? ⟨B, 0, none⟩ = some x) (h1 : w5.cell? ⟨B, 1, none⟩ = some z) (hf : w5.frozen? ⟨B, 1, none⟩ = false) (ho : Own (B + 1) e (Arr RI) (fun b => B < b) w5 v L) (hx : Ext w w5) (hB : w.heap.size ≤ B) :
    (w5.setCell ⟨B, 1, none⟩ v).cell? ⟨B, 0, none⟩ = some x ∧ (w5.setCell ⟨B, 1, none⟩ v).cell? ⟨B, 1, none⟩ = some v ∧ (w5.setCell ⟨B, 1, none⟩ v).frozen? ⟨B, 1, none⟩ = false ∧ Own (B + 1) e (Arr RI) (fun b => B < b) (w5.setCell ⟨B, 1, none⟩ v) v L ∧ Ext w (w5.setCell ⟨B, 1, none⟩ v) := by
  refine ⟨?_, World.cell?_setCell_same _ _ _ h1, by rw [World.frozen?_setCell]; exact hf, ?_, Below.setCell hx hB v⟩
  · rw [World.cell?_setCell_other (h := by simp)]; exact h0
  · refine ho.kept (grownBy_setCell w5 ⟨B, 1, none⟩ v) ?_ (fun k hk hlt => by cases hk; exact Nat.lt_irrefl _ hlt)
    cases hv : v.ownBlock with
    | none => exact .inl rfl
    | some b => exact .inr (fun hc => by cases hc; exact Nat.lt_irrefl _ (ho.lt _ hv).1)

set_option maxRecDepth 100000 in
set_option maxHeartbeats 16000000 in
theorem resolves_w (vars skip : Int) (w : World) (h0 : 0 ≤ vars) (h1 : vars ≤ 255) (s0 : 0 ≤ skip) (s1 : skip ≤ 65535) :
    Calls Try.prog 8 #[.int .u8 vars, .int .u16 skip] w fun e w' => e = .returned (.bool true) ∧ Ext w w' := by
  go_enter Try.func8, Try.ntmps8
  go_wp2_with fail
  obtain ⟨n, hn⟩ : ∃ n : Nat, vars % 4 + 1 = (n : Int) := ⟨(vars % 4 + 1).toNat, by omega⟩
  have hn1 : 1 ≤ n := by omega
  have hn4 : n ≤ 4 := by omega
  obtain ⟨N, hN⟩ : ∃ N, N = 2 ^ n := ⟨_, rfl⟩
  have hpow : wrap64 (2 ^ (vars % 4 + 1).toNat) = (N : Int) := by
    rw [hn, Int.toNat_natCast, hN]
    have : n = 1 ∨ n = 2 ∨ n = 3 ∨ n = 4 := by omega
    rcases this with rfl | rfl | rfl | rfl <;> decide +kernel
  have hN16 : N ≤ 16 := by
    rw [hN]
    have : n = 1 ∨ n = 2 ∨ n = 3 ∨ n = 4 := by omega
    rcases this with rfl | rfl | rfl | rfl <;> decide
  rw [hpow, hn]
  have HN := Lib.hid hN
  have Hn := Lib.hid hn
  clear hpow hN hn
  have hB0 : (w.alloc (.cells #[.int .i64 (n : Int), .slice none 0 0] 24)).cell? ⟨w.heap.size, 0, none⟩ = some (.int .i64 (n : Int)) := by unfold World.cell?; rw [World.alloc_heap_new]; rfl
  have hB1 : (w.alloc (.cells #[.int .i64 (n : Int), .slice none 0 0] 24)).cell? ⟨w.heap.size, 1, none⟩ = some (.slice none 0 0) := by unfold World.cell?; rw [World.alloc_heap_new]; rfl
  have hBf : (w.alloc (.cells #[.int .i64 (n : Int), .slice none 0 0] 24)).frozen? ⟨w.heap.size, 1, none⟩ = false := by unfold World.frozen?; rw [World.alloc_heap_new]; rfl
  go_loopw [21] (fun i wr => ∃ (k : Nat) (sl : Option Addr) (cp : Nat), k ≤ N ∧ i = .int .i64 (k : Int) ∧ wr.cell? ⟨w.heap.size, 0, none⟩ = some (.int .i64 (n : Int)) ∧ wr.cell? ⟨w.heap.size, 1, none⟩ = some (.slice sl (exclI n skip k).length cp) ∧ wr.frozen? ⟨w.heap.size, 1, none⟩ = false ∧
    Own (w.heap.size + 1) 37 (Arr RI) (fun b => w.heap.size < b) wr (.slice sl (exclI n skip k).length cp) (exclI n skip k) ∧ Ext w wr) (fun i _ => N - (intOf i).toNat)
  case atStart => exact ⟨0, none, 0, Nat.zero_le _, rfl, hB0, hB1, hBf, Own.nil, Ext.of_alloc _ _⟩
  case round =>
    obtain ⟨k, sl, cp, hk, rfl, hb0, hb1, hbf, ho, hx⟩ := hrel
    clear hB0 hB1 hBf
    have hBw : w.heap.size < wr.heap.size := lt_of_cell hb0
    by_cases hlt : k < N
    · by_cases hsk : n = 4 ∧ (k : Int) = skip
      · have he := Lib.hid (exclI_skip hsk.1 hsk.2)
        have c1 : ((n : Int) == 4) = true := by rw [beq_iff_eq]; omega
        have c2 : ((k : Int) == skip) = true := by rw [beq_iff_eq]; exact hsk.2
        clear hsk
        go_wp2
        go_roundw
        case rel => exact ⟨k + 1, sl, cp, hlt, by go_num, hb0, by rw [he.out]; exact hb1, hbf, by rw [he.out]; exact ho, hx⟩
        case measure => simp [intOf]; omega
      · have hne : n ≠ 4 ∨ (k : Int) ≠ skip := by omega
        have he := Lib.hid (exclI_next hne)
        have hlen := exclI_length n skip k
        have c12 : ((n : Int) == 4) = false ∨ (((n : Int) == 4) = true ∧ ((k : Int) == skip) = false) := by
          by_cases h4 : n = 4
          · exact .inr ⟨by rw [beq_iff_eq]; omega, by rw [beq_eq_false_iff_ne]; rcases hne with h | h; exact absurd h4 h; exact h⟩
          · exact .inl (by rw [beq_eq_false_iff_ne]; omega)
        clear hsk hne
        have hwr : IntKind.u16.wrap (k : Int) = (k : Int) := by simp [IntKind.wrap, IntKind.signed, IntKind.bits]; omega
        rcases c12 with c1 | ⟨c1, c2⟩
        all_goals (
          go_wp2_with fail
          refine wp_then (fun a0 a w' => ∃ (v36 v37 v38 v39 : Value) (s40 : Option Addr) (c40 : Nat), (w'.cell? ⟨w.heap.size, 0, none⟩ = some (.int .i64 (n : Int)) ∧ w'.cell? ⟨w.heap.size, 1, none⟩ = some (.slice s40 ((exclI n skip k).length + 1) c40) ∧ w'.frozen? ⟨w.heap.size, 1, none⟩ = false ∧
              Own (w.heap.size + 1) 37 (Arr RI) (fun b => w.heap.size < b) w' (.slice s40 ((exclI n skip k).length + 1) c40) (exclI n skip k ++ [exclC n (k : Int)]) ∧ Ext w w') ∧
              a = { tmps := (((((((((a0.tmps.setIfInBounds 32 (.pointer (some ⟨w.heap.size, 1, none⟩))).setIfInBounds 33 (.slice sl (exclI n skip k).length cp)).setIfInBounds 34 (.int .i64 (n : Int))).setIfInBounds 35 (.int .i64 (k : Int))).setIfInBounds 36 v36).setIfInBounds 37 v37).setIfInBounds 38 v38).setIfInBounds 39 v39).setIfInBounds 40 (.slice s40 ((exclI n skip k).length + 1) c40)).setIfInBounds 41 (.pointer (some ⟨w.heap.size, 1, none⟩)), defers := [] }) ?_ ?_
          · go_region_law (first | (go_simp; go_at_call 29; refine (model_c n (k : Int) _ (by omega)).mono ?_; rintro e w2 ⟨v37, rfl, ho37, hx2⟩; (have hr2 : Ext wr w2 := Ext.trans (Ext.drew (Ext.refl _)) hx2); (have q1 := hr2.cell hb1)) | (go_simp; go_at_call 28; refine (lneg_c _ ho37.arr (by rw [modelI_length]; omega)).mono ?_; rintro e w3 ⟨v38, rfl, ho38, hx3⟩; obtain ⟨a38, c38, rfl⟩ := ho38.len; (have hr3 : Ext wr w3 := Ext.trans hr2 hx3); (have q3 := hr3.cell hb1); (have q4 : ∀ o : Obj, (w3.alloc o).cell? ⟨w.heap.size, 1, none⟩ = some (.slice sl (exclI n skip k).length cp) := fun o => (Ext.of_alloc w3 o).cell q3); (have ho3 := ho.ext hr3); (have hB3 : w.heap.size < w3.heap.size := Nat.lt_of_lt_of_le hBw hr3.size); (have hPn : w.heap.size < w3.heap.size ∧ (Value.slice sl (exclI n skip k).length cp).ownBlock ≠ some w3.heap.size := ⟨hB3, fun hc => Nat.lt_irrefl _ (ho3.lt _ hc).2⟩); (have hy38 : Ints (fun b => w.heap.size < b ∧ (Value.slice sl (exclI n skip k).length cp).ownBlock ≠ some b) w3 _ (exclC n (k : Int)) := push_elem ho ho38 (Nat.lt_of_lt_of_le hBw hr2.size) hr2.size)) | (refine r_app (v := Value.slice sl (exclI n skip k).length cp) (yv := Value.slice (some ⟨_, 0, none⟩) 1 1) elR rfl rfl (ho3.ext (by repeat (first | exact Ext.refl _ | assumption | apply Ext.alloc | apply Ext.drew))) (Good.ext (R := Rows) (rows_new w3 [_] [exclC n (k : Int)] rfl hPn ⟨⟨hy38, rfl⟩, trivial⟩) (by repeat (first | exact Ext.refl _ | assumption | apply Ext.alloc | apply Ext.drew))) (fun b hb _ => hb) (by simp; omega) (by simp; omega) (by decide) ?_; intro v40 w5 ho5 hb5 hg5 ha5; obtain ⟨s40, c40, rfl⟩ := ho5.len; (have hxw5 : Ext w w5 := Below.trans (hx.trans (Ext.trans hr3 (by repeat (first | exact Ext.refl _ | assumption | apply Ext.alloc | apply Ext.drew)))) (Below.mono hb5 (Nat.le_succ _))); (have hr5 : Below (w.heap.size + 1) wr w5 := Below.trans (Below.mono (Ext.trans hr3 (by repeat (first | exact Ext.refl _ | assumption | apply Ext.alloc | apply Ext.drew))) (Nat.succ_le_of_lt hBw)) hb5); (have r0 := (Below.cell hr5 (p := ⟨w.heap.size, 0, none⟩) (Nat.lt_succ_self _)).trans hb0); (have r1 := (Below.cell hr5 (p := ⟨w.heap.size, 1, none⟩) (Nat.lt_succ_self _)).trans hb1); (have rf := (Below.frozen hr5 (p := ⟨w.heap.size, 1, none⟩) (Nat.lt_succ_self _)).trans hbf)))
            all_goals (
              dsimp only [Exit.then]
              have hl40 : (exclI n skip k ++ [exclC n (k : Int)]).length = (exclI n skip k).length + 1 := by simp
              rw [hl40] at ho5
              apply Exists.intro
              apply Exists.intro
              apply Exists.intro
              apply Exists.intro
              refine ⟨s40, c40, box_set r0 r1 rf ho5 hxw5 (Nat.le_refl _), ?_⟩
              simp only [List.setIfInBounds_toArray, List.set_cons_succ, List.set_cons_zero]
              rfl)
          · rintro a W9 ⟨v36, v37, v38, v39, s40, c40, ⟨k0, k1, kf, ho9, hx9⟩, rfl⟩
            simp only [List.setIfInBounds_toArray, List.set_cons_succ, List.set_cons_zero]
            have hln : Hid ((exclI n skip (k + 1)).length = (exclI n skip k).length + 1) := by show _ = _; rw [he.out]; simp
            go_wp2
            go_roundw
            case rel => exact ⟨k + 1, s40, c40, hlt, by go_num, k0, by rw [hln.out]; exact k1, kf, by rw [hln.out, he.out]; exact ho9, hx9⟩
            case measure => simp [intOf]; omega)
    · obtain rfl : k = N := by omega
      obtain ⟨W1, hW1⟩ : ∃ W1, W1 = wr := ⟨_, rfl⟩
      rw [← hW1] at hb0 hb1 ho hx hBw ⊢
      clear hW1 hbf hlt hk
      go_wp2
      go_loopw [8, 9] (fun x i wr => ∃ (j : Nat), j ≤ n ∧ i = .int .i64 ((n : Int) - 1 - (j : Int)) ∧ Own W1.heap.size 37 (Arr RI) anyB wr x (proofI n j) ∧ Ext W1 wr) (fun _ i _ => (intOf i + 1).toNat)
      case atStart => exact ⟨0, Nat.zero_le _, by simp, Own.nil, Ext.refl _⟩
      case round =>
        obtain ⟨j, hj, rfl, hp, hxr⟩ := hrel
        by_cases hlt : j < n
        · obtain ⟨q, hq⟩ : ∃ q : Nat, q = n - 1 - j := ⟨_, rfl⟩
          have hqi : (n : Int) - 1 - (j : Int) = (q : Int) := by omega
          rw [hqi]
          have hq4 : q ≤ 3 := by omega
          obtain ⟨Q, hQ⟩ : ∃ Q, Q = 2 ^ q := ⟨_, rfl⟩
          have hpw : wrap64 (2 ^ q) = (Q : Int) := by
            rw [hQ]
            have : q = 0 ∨ q = 1 ∨ q = 2 ∨ q = 3 := by omega
            rcases this with rfl | rfl | rfl | rfl <;> decide +kernel
          have hQ8 : Q ≤ 8 := by
            rw [hQ]
            have : q = 0 ∨ q = 1 ∨ q = 2 ∨ q = 3 := by omega
            rcases this with rfl | rfl | rfl | rfl <;> decide
          have hpl := proofI_length n j hn4
          have hfin : Hid (proofI n (j + 1) = proofI n j ++ rowI q Q) := by show _ = _; rw [hQ, hq]; rfl
          clear hQ hq
          go_wp2_with fail
          rw [hpw]
          go_loopw [8, 51] (fun x i wr => ∃ (b : Nat), b ≤ Q ∧ i = .int .i64 (b : Int) ∧ Own W1.heap.size 37 (Arr RI) anyB wr x (proofI n j ++ rowI q b) ∧ Ext W1 wr) (fun _ i _ => Q - (intOf i).toNat)
          case atStart => exact ⟨0, Nat.zero_le _, rfl, by rw [show rowI q 0 = [] from rfl, List.append_nil]; exact hp, hxr⟩
          case round =>
            obtain ⟨b, hb, rfl, hp2, hxs⟩ := hrel
            have hB1 : W1.heap.size ≤ wr.heap.size := hxs.size
            by_cases hlb : b < Q
            · have hwr : IntKind.u16.wrap (b : Int) = (b : Int) := by simp [IntKind.wrap, IntKind.signed, IntKind.bits]; omega
              have hsu := Lib.hid (rowI_succ q b)
              have hlen1 : ((proofI n j ++ rowI q b).length + 1) * 24 ≤ 140737488355328 := by rw [List.length_append, rowI_length]; omega
              go_wp2_with (first | (go_at_call 29; refine (model_c q (b : Int) _ (by omega)).mono ?_; rintro e w2 ⟨v37, rfl, ho37, hx2⟩) | (go_at_call 28; refine (lneg_c _ ho37.arr (by rw [modelI_length]; omega)).mono ?_; rintro e w3 ⟨v38, rfl, ho38, hx3⟩; (have hy38 := push_any hp2 ho38 hx2.size); (have h1y := ho38.one); (have hp3 := (hp2.ext hx2).ext hx3); (have hB3 := Nat.le_trans hB1 (hx2.trans hx3).size)) | ((with_reducible refine w_push elR ?_ ?_ ?_ ?_ hp3 (exclC q (b : Int)) (hy38) h1y hB3 hlen1 (by decide) ?_); (· exact fun _ => rfl); (· rfl); (· rfl); (· rfl); rintro _ v5 w5 ho5 hb5 hg5 _; simp only [Act.put, List.setIfInBounds_toArray, List.set_cons_succ, List.set_cons_zero]))
              go_roundw
              case rel => exact ⟨b + 1, hlb, by go_num, by rw [hsu.out, ← List.append_assoc]; exact ho5, Below.trans ((hxs.trans hx2).trans hx3) hb5⟩
              case measure => simp [intOf]; omega
            · obtain rfl : b = Q := by omega
              go_wp2
              go_roundw
              case rel => exact ⟨j + 1, hlt, by rw [← hqi]; congr 1; omega, by rw [hfin.out]; exact hp2, hxs⟩
              case measure => simp [intOf] <;> omega
        · obtain rfl : j = n := by omega
          rw [show (j : Int) - 1 - (j : Int) = -1 from by omega]
          have k0 := hxr.cell hb0
          have k1 := hxr.cell hb1
          have hpk : wrap64 (2 ^ j) = (k : Int) := by
            rw [HN.out]
            have : j = 1 ∨ j = 2 ∨ j = 3 ∨ j = 4 := by omega
            rcases this with h | h | h | h <;> rw [h] <;> decide +kernel
          have hres := resolves_plain j hn1 hn4 skip
          rw [← HN.out] at hres
          by_cases hfull : (exclI j skip k).length = k
          · have hv := Lib.hid (hres.1 hfull)
            have ceq : (((exclI j skip k).length : Int) == (k : Int)) = true := by rw [beq_iff_eq]; omega
            clear hres hfull
            have hrw := Good.ext (R := Rows) ho.arr hxr
            have hvc := pverify_c (j : Int) wr hrw hp.arr (exclI_irr _ _ _)
            rw [hv.out] at hvc
            go_wp2_with (first | (go_at_call 13; refine hvc.mono ?_; rintro e w2 ⟨rfl, hx2⟩; have k2 := hx2.cell k1) | (go_at_call 12; refine (awake_c _).mono ?_; rintro e w3 ⟨rfl, hx3⟩) | (refine wp_region_quiet_lit (by kernel_rfl) (by kernel_rfl) ?_; (repeat (first | go_big_quiet_skip |  ((with_reducible refine q_len elR.und ?_ ?_ Lib.IsSliceL.mk ?_); (· rfl); (· rfl); simp only [Act.put, List.setIfInBounds_toArray, List.set_cons_succ, List.set_cons_zero])  | go_big_quiet_step (fail))); refine wpQuiet_nil ?_; rintro _ ⟨nq, rfl⟩))
            go_ret
            exact ⟨rfl, Ext.trans hx (Ext.trans hxr (Ext.trans hx2 (Ext.trans (Ext.of_drewN _ _) hx3)))⟩
          · obtain ⟨a, ha⟩ : ∃ a, verifyI j (exclI j skip k) (proofI j j) = (a, 18) := ⟨_, Prod.ext rfl (hres.2 hfull).1⟩
            have hlt2 : a < (proofI j j).length := by have := (hres.2 hfull).2; rw [ha] at this; exact this
            have hv := Lib.hid ha
            have ceq : (((exclI j skip k).length : Int) == (k : Int)) = false := by rw [beq_eq_false_iff_ne]; omega
            clear hres ha hfull
            have hrw := Good.ext (R := Rows) ho.arr hxr
            have hvc := pverify_c (j : Int) wr hrw hp.arr (exclI_irr _ _ _)
            rw [hv.out] at hvc
            go_wp2_with (first | (go_at_call 13; refine hvc.mono ?_; rintro e w2 ⟨rfl, hx2⟩; have k2 := hx2.cell k1) | (go_at_call 12; refine (awake_c _).mono ?_; rintro e w3 ⟨rfl, hx3⟩) | (refine wp_region_quiet_lit (by kernel_rfl) (by kernel_rfl) ?_; (repeat (first | go_big_quiet_skip |  ((with_reducible refine q_len elR.und ?_ ?_ Lib.IsSliceL.mk ?_); (· rfl); (· rfl); simp only [Act.put, List.setIfInBounds_toArray, List.set_cons_succ, List.set_cons_zero])  | go_big_quiet_step (fail))); refine wpQuiet_nil ?_; rintro _ ⟨nq, rfl⟩) | ((with_reducible refine w_len elR.und ?_ ?_ hp.len ?_); (· rfl); (· rfl); simp only [Act.put, List.setIfInBounds_toArray, List.set_cons_succ, List.set_cons_zero]))
            go_ret
            exact ⟨rfl, Ext.trans hx (Ext.trans hxr (Ext.trans hx2 (Ext.trans (Ext.of_drewN _ _) hx3)))⟩

end Go.Proofs.Ytjifihfkoflbiaa
