/-
  The contracts of the reference on refutations, second part: leaving out, trimming, cores.
-/
import Derived.Test.YtjifihfkoflbiaaRef42
namespace Go.Proofs.Ytjifihfkoflbiaa
open Go.RowKit

theorem take_all {α : Type} (l : List α) (j : Nat) : (l.drop j).take (l.length - j) = l.drop j := List.take_of_length_le (by simp)
theorem remI_length {α : Type} {l : List α} {i : Nat} (h : i < l.length) : (remI l i).length = l.length - 1 := by unfold remI; simp; omega
theorem remI_bulk {l : List (List Int)} (i : Nat) : bulkR (remI l i) ≤ bulkR l := by
  unfold remI
  have h := bulkR_append (l.take i) (l.drop i)
  rw [List.take_append_drop] at h
  have h2 := bulkR_append ((l.drop i).take 1) ((l.drop i).drop 1)
  rw [List.take_append_drop, List.drop_drop] at h2
  rw [bulkR_append]; omega

set_option maxHeartbeats 1000000 in
theorem rwithout_c {P : Nat → Prop} {u : Value} {l : List (List Int)} {i : Nat} (w : World) (hu : Rows P w u l) (hi : i < l.length) (hsm : l.length ≤ 1000000) :
    Calls Try.prog 45 #[u, .int .i64 (i : Int)] w (RetP (fun w' v => Own w.heap.size 37 (Arr RI) (fun k => k < w.heap.size) w' v (remI l i)) w) := by
  have hle := hu.le
  have hu0 := hu.old
  clear hu
  have hnil : Own w.heap.size 37 (Arr RI) (fun k => k < w.heap.size) w (.slice none 0 0) ([] : List (List Int)) := Own.nil
  have hlen0 : (([] : List (List Int)).length + (l.take i).length) * 24 ≤ 140737488355328 := by simp; omega
  have hlen1 : (([] ++ l.take i).length + (l.drop (i + 1)).length) * 24 ≤ 140737488355328 := by simp; omega
  go_enter Try.func45, Try.ntmps45
  go_wp2_with (first | ((with_reducible refine w_slice elR ?_ hu0 0 i ?_ ?_ (Nat.zero_le _) (Nat.le_of_lt hi) ?_); (· rfl); (· exact (.inl ⟨rfl, rfl⟩)); (· exact (.inr ⟨.i64, rfl⟩)); rintro v1 hv1; have hv2 : Rows (fun k => k < w.heap.size) w v1 (l.take i) := hv1; simp only [Act.put, List.setIfInBounds_toArray, List.set_cons_succ, List.set_cons_zero]) | ((with_reducible refine w_app elR ?_ ?_ hnil hv2 (fun b hb _ => ⟨hb, by simp [Value.ownBlock]⟩) (Nat.le_refl _) hlen0 (by decide) ?_); (· rfl); (· rfl); rintro v3 w1 ho1 hb1 _ _; have hu1 := hu0.ext hb1; simp only [Act.put, List.setIfInBounds_toArray, List.set_cons_succ, List.set_cons_zero]) | ((with_reducible refine w_slice elR ?_ hu1 (i + 1) l.length ?_ ?_ (Nat.succ_le_of_lt hi) (Nat.le_refl _) ?_); (· rfl); (· exact (.inr ⟨.i64, by go_num⟩)); (· exact (.inl ⟨rfl, rfl⟩)); rintro v4 hv4; rw [take_all] at hv4; simp only [Act.put, List.setIfInBounds_toArray, List.set_cons_succ, List.set_cons_zero]) | ((with_reducible refine w_app elR ?_ ?_ ho1 hv4 (fun b hb _ => ⟨hb, fun hc => absurd hb (Nat.not_lt.2 (ho1.lt b hc).1)⟩) (hb1.size) hlen1 (by decide) ?_); (· rfl); (· rfl); rintro v5 w5 ho5 hb5 _ _; simp only [Act.put, List.setIfInBounds_toArray, List.set_cons_succ, List.set_cons_zero]))
  go_ret
  exact ⟨_, rfl, ho5, Below.trans hb1 hb5⟩

theorem own_start {α β : Type} {R : Rel α} {R' : Rel β} {P : Nat → Prop} {w : World} {v : Value} {ys : List β} (e : TypeId) (_ : Arr R' P w v ys) : Own w.heap.size e R (fun k => k < w.heap.size) w (.slice none 0 0) ([] : List α) := Own.nil
theorem remI_mem {α : Type} {l : List α} {i : Nat} {x : α} (h : x ∈ remI l i) : x ∈ l := by
  unfold remI at h
  rcases List.mem_append.1 h with h | h
  · exact List.mem_of_mem_take h
  · exact List.mem_of_mem_drop h
theorem bulkR_le {m : Nat} : ∀ {l : List (List Int)}, (∀ x ∈ l, x.length ≤ m) → bulkR l ≤ l.length * (m + 1)
  | [], _ => by simp [bulkR]
  | c :: l, h => by
    have h1 := bulkR_le (l := l) (fun x hx => h x (by simp [hx]))
    have h2 := h c (by simp)
    rw [bulkR_cons, List.length_cons, Nat.succ_mul]; omega
theorem chosenI_len {m : Nat} {l : List (List Int)} (h : ∀ x ∈ l, x.length ≤ m) (c : List Int) : bulkR (chosenI l c) ≤ c.length * (m + 1) := by
  have : (chosenI l c).length = c.length := by simp [chosenI]
  rw [← this]
  refine bulkR_le (fun x hx => ?_)
  simp only [chosenI, List.mem_map] at hx
  obtain ⟨i, _, rfl⟩ := hx
  rw [List.getD_eq_getElem?_getD]
  cases hg : l[i.toNat]? with
  | none => simp
  | some y => exact h y (List.mem_of_getElem? hg)

set_option maxHeartbeats 1000000 in
theorem chosen_c {P P' : Nat → Prop} {u v : Value} {l : List (List Int)} {c : List Int} (w : World) (hu : Rows P w u l) (hv : Ints P' w v c) (hc : ∀ x ∈ c, 0 ≤ x ∧ x < l.length) (hsm : c.length ≤ 1000000) :
    Calls Try.prog 47 #[u, v] w (RetP (fun w' v => Own w.heap.size 37 (Arr RI) (fun k => k < w.heap.size) w' v (chosenI l c)) w) := by
  have hle := hv.le
  have hu0 := hu.old
  clear hu
  go_enter Try.func47, Try.ntmps47
  go_wp2
  go_loopw [5, 6] (fun x i wr => ∃ (k : Nat) (acc : List (List Int)), k ≤ c.length ∧ acc.length = k ∧ i = .int .i64 k ∧ Hid (acc ++ chosenI l (c.drop k) = chosenI l c) ∧ Own w.heap.size 37 (Arr RI) (fun k => k < w.heap.size) wr x acc ∧ Ext w wr) (fun _ i _ => c.length - (intOf i).toNat)
  case atStart => exact ⟨0, [], Nat.zero_le _, rfl, rfl, rfl, Own.nil, Ext.refl _⟩
  case round =>
    obtain ⟨k, acc, hk, hacc, rfl, hn, ho, hx⟩ := hrel
    have hu1 := hu0.ext hx
    have hv1 := hv.ext hx
    by_cases hlt : k < c.length
    · have hst := Lib.hid (chosenI_step (l := l) hlt)
      obtain ⟨h0, h1⟩ := hc _ (List.getElem_mem hlt)
      have hj : c[k] = (((c[k]).toNat : Nat) : Int) := by omega
      have hlt2 : (c[k]).toNat < l.length := by omega
      have hg : Hid (l.getD (c[k]).toNat [] = l[(c[k]).toNat]) := by show _ = _; rw [List.getD_eq_getElem?_getD, List.getElem?_eq_getElem hlt2]; rfl
      have hlen1 : (acc.length + 1) * 24 ≤ 140737488355328 := by omega
      have Hj := Lib.hid hj
      clear hj h0 h1
      go_wp2_with (first | ((with_reducible refine w_len elI.und ?_ ?_ hv1.len ?_); (· rfl); (· rfl); simp only [Act.put, List.setIfInBounds_toArray, List.set_cons_succ, List.set_cons_zero]) | ((with_reducible refine w_ixI elI ?_ ?_ ?_ ?_ ?_ hv1 hlt ?_); (· rfl); (· exact fun _ => rfl); (· exact fun _ => rfl); (· rfl); (· rfl); intro _; simp only [Act.put, List.setIfInBounds_toArray, List.set_cons_succ, List.set_cons_zero]) | ((with_reducible refine w_ixJ elR ?_ ?_ ?_ c[k] Hj.out ?_ ?_ hu1 hlt2 ?_); (· rfl); (· exact fun _ => rfl); (· exact fun _ => rfl); (· rfl); (· rfl); intro _ y hyy h1y; simp only [Act.put, List.setIfInBounds_toArray, List.set_cons_succ, List.set_cons_zero]) | ((with_reducible refine w_push elR ?_ ?_ ?_ ?_ ho (l[(c[k]).toNat]) (own_elem ho hyy) h1y hx.size hlen1 (by decide) ?_); (· exact fun _ => rfl); (· rfl); (· rfl); (· rfl); rintro _ v3 w3 ho3 hb3 hg3 _; simp only [Act.put, List.setIfInBounds_toArray, List.set_cons_succ, List.set_cons_zero]))
      go_roundw
      case rel => exact ⟨k + 1, acc ++ [l[(c[k]).toNat]], hlt, by simp; omega, by go_num, by show _ = _; rw [← hn.out, hst.out, hg.out, List.append_assoc]; rfl, ho3, Below.trans hx hb3⟩
      case measure => simp [intOf]; omega
    · obtain rfl : k = c.length := by omega
      go_wp2_with ((with_reducible refine w_len elI.und ?_ ?_ hv1.len ?_); (· rfl); (· rfl); simp only [Act.put, List.setIfInBounds_toArray, List.set_cons_succ, List.set_cons_zero])
      go_ret
      refine ⟨_, rfl, ?_, hx⟩
      have e := hn.out
      rw [List.drop_length, chosenI, List.map_nil, List.append_nil] at e
      rw [← e]; exact ho

theorem verifyI_ok {vars : Int} {l p : List (List Int)} (h : (verifyI vars l p).2 = 0) : checkI vars l = 0 ∧ p.length ≤ 32768 ∧ badI vars 0 p = none ∧ gapI l p < 0 := by
  unfold verifyI at h
  by_cases hc : checkI vars l = 0
  · rw [if_neg (by simp [hc])] at h
    by_cases hp : p.length ≤ 32768
    · rw [if_neg (by omega)] at h
      cases hb : badI vars 0 p with
      | none =>
        simp only [hb] at h
        by_cases hg : 0 ≤ gapI l p
        · rw [if_pos hg] at h; exact absurd h (by simp)
        · exact ⟨hc, hp, rfl, by omega⟩
      | some r =>
        simp only [hb] at h
        have := badI_some (i := r.1) (e := r.2) hb
        omega
    · rw [if_pos (by omega)] at h; exact absurd h (by simp)
  · rw [if_pos hc] at h; exact absurd h hc
theorem gapI_nil {l : List (List Int)} : gapI l [] = 0 := rfl

set_option maxHeartbeats 2000000 in
/-- Trim of the reference -/
theorem rtrim_c {P P' : Nat → Prop} {u v : Value} {l p : List (List Int)} (vars : Int) (w : World) (hu : Rows P w u l) (hv : Rows P' w v p)
    (hsm : checkI vars l = 0 → p.length ≤ 32768 → bulkR l + bulkR p ≤ 500000) :
    Calls Try.prog 16 #[.agg #[.int .i64 vars, u], v] w (RetP (fun w' r => ∃ x, r = .tuple #[x, .int .i64 (verifyI vars l p).2] ∧ Rows anyB w' x (if (verifyI vars l p).2 ≠ 0 then [] else trimI l p)) w) := by
  have hle := hv.le
  by_cases hz : (verifyI vars l p).2 = 0
  · have Hz := Lib.hid hz
    obtain ⟨hc, hp, _, hgap⟩ := verifyI_ok hz
    have hsm' := hsm hc hp
    have hp0 : 0 < p.length := by
      cases p with
      | nil => rw [gapI_nil] at hgap; omega
      | cons _ _ => simp
    have hpz : (p.length : Int) - 2 = ((p.length - 1 : Nat) : Int) - 1 := by omega
    have Hpz := Lib.hid hpz
    clear hpz hgap hc
    go_enter Try.func16, Try.ntmps16
    go_wp2_with (first | (go_at_call 14; refine (rverify_c _ _ (hu.ext (Ext.of_alloc _ _)) (hv.ext (Ext.of_alloc _ _)) hsm).mono ?_; rintro e w1 ⟨rfl, hx1⟩) | ((with_reducible refine w_len elR.und ?_ ?_ hv.len ?_); (· rfl); (· rfl); simp only [Act.put, List.setIfInBounds_toArray, List.set_cons_succ, List.set_cons_zero]))
    have hb1 : w1.cell? ⟨w.heap.size, 1, none⟩ = some u := hx1.cell (by simp)
    have hx := (Ext.of_alloc w _).trans hx1
    have hv1 := hv.ext hx
    have hu1 := hu.ext hx
    clear hx1 hz
    go_loopw [1, 8] (fun x i wr => ∃ (k : Nat) (cur : List (List Int)), k ≤ cur.length ∧ i = .int .i64 ((k : Int) - 1) ∧ Hid (prune (refutesI l) k cur = trimI l p) ∧ bulkR cur ≤ bulkR p ∧ Rows anyB wr x cur ∧ Ext w1 wr) (fun _ i _ => (intOf i + 1).toNat)
    case atStart => exact ⟨p.length - 1, p, by omega, by rw [Hpz.out], rfl, Nat.le_refl _, hv1.any, Ext.refl _⟩
    case round =>
      obtain ⟨k, cur, hk, rfl, hn, hbk, hc1, hx1⟩ := hrel
      have hu2 := hu1.ext hx1
      have hb2 := hx1.cell hb1
      have hcl : cur.length ≤ bulkR cur := by unfold bulkR; omega
      cases k with
      | zero =>
        rw [show (((0 : Nat) : Int) - 1) = -1 from rfl]
        go_wp2
        go_ret2
        refine ⟨_, rfl, ⟨_, by rw [Hz.out]; rfl, ?_⟩, hx.trans hx1⟩
        rw [← hn.out]
        exact hc1
      | succ k =>
        rw [show (((k + 1 : Nat) : Int) - 1) = (k : Int) from by omega]
        have hlt : k < cur.length := by omega
        have hsm1 : cur.length ≤ 1000000 := by omega
        have hb3 := remI_bulk (l := cur) k
        have hsm2 : bulkR l + bulkR (remI cur k) ≤ 500000 := by omega
        have hlr := remI_length hlt
        cases hok : refutesI l (remI cur k)
        · go_wp2_with (first | (go_at_call 45; refine (rwithout_c _ hc1 hlt hsm1).mono ?_; rintro e w2 ⟨y, rfl, ho2, hx2⟩; have hb4 := hx2.cell hb2) | (go_at_call 24; refine (refutes_c _ (hu2.ext hx2) ho2.arr hsm2).mono ?_; rintro e w3 ⟨rfl, hx3⟩))
          go_roundw
          case rel => exact ⟨k, cur, by omega, by go_num, by show _ = _; rw [← hn.out, prune, if_neg (by simp [hok])], hbk, (hc1.ext hx2).ext hx3, (hx1.trans hx2).trans hx3⟩
          case measure => simp [intOf]
        · go_wp2_with (first | (go_at_call 45; refine (rwithout_c _ hc1 hlt hsm1).mono ?_; rintro e w2 ⟨y, rfl, ho2, hx2⟩; have hb4 := hx2.cell hb2) | (go_at_call 24; refine (refutes_c _ (hu2.ext hx2) ho2.arr hsm2).mono ?_; rintro e w3 ⟨rfl, hx3⟩))
          go_roundw
          case rel => exact ⟨k, remI cur k, by omega, by go_num, by show _ = _; rw [← hn.out, prune, if_pos hok], by omega, (ho2.arr.any).ext hx3, (hx1.trans hx2).trans hx3⟩
          case measure => simp [intOf]
  · have Hz := Lib.hid hz
    go_enter Try.func16, Try.ntmps16
    go_wp2_with (first | (go_at_call 14; refine (rverify_c _ _ (hu.ext (Ext.of_alloc _ _)) (hv.ext (Ext.of_alloc _ _)) hsm).mono ?_; rintro e w1 ⟨rfl, hx1⟩))
    go_ret2
    refine ⟨_, rfl, ⟨_, rfl, ?_⟩, (Ext.of_alloc w _).trans hx1⟩
    try rw [if_pos Hz.out]
    exact Arr.nil'

theorem upI_succ (k : Nat) : upI (k + 1) = upI k ++ [(k : Int)] := by simp [upI, List.range_succ]
theorem upI_length (k : Nat) : (upI k).length = k := by simp [upI]
theorem upI_mem {k : Nat} {x : Int} (h : x ∈ upI k) : 0 ≤ x ∧ x < k := by
  simp only [upI, List.mem_map, List.mem_range] at h
  obtain ⟨a, ha, rfl⟩ := h
  simp only [Int.ofNat_eq_natCast]; omega

set_option maxHeartbeats 2000000 in
/-- Core of the reference -/
theorem rcore_c {P P' : Nat → Prop} {u v : Value} {l p : List (List Int)} (vars : Int) (w : World) (hu : Rows P w u l) (hv : Rows P' w v p)
    (hsm : checkI vars l = 0 → p.length ≤ 32768 → bulkR l + bulkR p ≤ 500000) (hsm2 : checkI vars l = 0 → p.length ≤ 32768 → l.length ≤ 200 ∧ (∀ x ∈ l, x.length ≤ 1000) ∧ bulkR p ≤ 200000) :
    Calls Try.prog 19 #[.agg #[.int .i64 vars, u], v] w (RetP (fun w' r => ∃ x, r = .tuple #[x, .int .i64 (verifyI vars l p).2] ∧ Ints anyB w' x (if (verifyI vars l p).2 ≠ 0 then [] else coreI l p)) w) := by
  have hle := hv.le
  by_cases hz : (verifyI vars l p).2 = 0
  · have Hz := Lib.hid hz
    obtain ⟨hc, hp, _, hgap⟩ := verifyI_ok hz
    obtain ⟨hl200, hl1000, hbp⟩ := hsm2 hc hp
    clear hgap hc hsm2
    go_enter Try.func19, Try.ntmps19
    go_wp2_with (first | (go_at_call 14; refine (rverify_c _ _ (hu.ext (Ext.of_alloc _ _)) (hv.ext (Ext.of_alloc _ _)) hsm).mono ?_; rintro e w1 ⟨rfl, hx1⟩))
    have hb1 : w1.cell? ⟨w.heap.size, 1, none⟩ = some u := hx1.cell (by simp)
    have hx := (Ext.of_alloc w _).trans hx1
    have hv1 := hv.ext hx
    have hu1 := hu.ext hx
    clear hx1 hz hsm
    go_loopw [8, 9] (fun x i wr => ∃ (k : Nat), k ≤ l.length ∧ i = .int .i64 (k : Int) ∧ Own w1.heap.size 3 RI noB wr x (upI k) ∧ Ext w1 wr) (fun _ i _ => l.length - (intOf i).toNat)
    case atStart => exact ⟨0, Nat.zero_le _, rfl, Own.nil, Ext.refl _⟩
    case round =>
      obtain ⟨k, hk, rfl, ho, hx1⟩ := hrel
      have hb2 := hx1.cell hb1
      have hu2 := hu1.ext hx1
      have hv2 := hv1.ext hx1
      have hlu : (upI k).length ≤ 1000000000 := by rw [upI_length]; omega
      by_cases hlt : k < l.length
      · go_wp2_with (first | ((with_reducible refine w_len elR.und ?_ ?_ hu2.len ?_); (· rfl); (· rfl); simp only [Act.put, List.setIfInBounds_toArray, List.set_cons_succ, List.set_cons_zero]) | ((with_reducible refine w_pushI elI ?_ ?_ ?_ ((k : Int)) ?_ ho hx1.size hlu ?_); (· exact fun _ => rfl); (· rfl); (· rfl); (· rfl); rintro _ v' w' ho' hb' _ _; simp only [Act.put, List.setIfInBounds_toArray, List.set_cons_succ, List.set_cons_zero]))
        go_roundw
        case rel => exact ⟨k + 1, hlt, by go_num, by rw [upI_succ]; exact ho', Below.trans hx1 hb'⟩
        case measure => simp [intOf]; omega
      · obtain rfl : k = l.length := by omega
        have hol := ho.len
        rw [upI_length] at hol
        go_wp2_with (first | ((with_reducible refine w_len elR.und ?_ ?_ hu2.len ?_); (· rfl); (· rfl); simp only [Act.put, List.setIfInBounds_toArray, List.set_cons_succ, List.set_cons_zero]) | ((with_reducible refine w_len elI.und ?_ ?_ hol ?_); (· rfl); (· rfl); simp only [Act.put, List.setIfInBounds_toArray, List.set_cons_succ, List.set_cons_zero]))
        go_loopw [8, 10] (fun x i wr' => ∃ (k : Nat) (cur : List Int), k ≤ cur.length ∧ cur.length ≤ l.length ∧ (∀ y ∈ cur, 0 ≤ y ∧ y < l.length) ∧ i = .int .i64 ((k : Int) - 1) ∧ Hid (prune (fun x => refutesI (chosenI l x) p) k cur = coreI l p) ∧ Ints anyB wr' x cur ∧ Ext w1 wr') (fun _ i _ => (intOf i + 1).toNat)
        case atStart => exact ⟨l.length, upI l.length, by rw [upI_length]; exact Nat.le_refl _, by rw [upI_length]; exact Nat.le_refl _, fun y hy => upI_mem hy, rfl, rfl, ho.arr.any, hx1⟩
        case round =>
          obtain ⟨k, cur, hk, hcl, hcm, rfl, hn, hc1, hx1⟩ := hrel
          have hb2 := hx1.cell hb1
          have hu2 := hu1.ext hx1
          have hv2 := hv1.ext hx1
          cases k with
          | zero =>
            rw [show (((0 : Nat) : Int) - 1) = -1 from rfl]
            go_wp2
            go_ret2
            refine ⟨_, rfl, ⟨_, by rw [Hz.out]; rfl, ?_⟩, hx.trans hx1⟩
            rw [← hn.out]
            exact hc1
          | succ k =>
            rw [show (((k + 1 : Nat) : Int) - 1) = (k : Int) from by omega]
            have hlt : k < cur.length := by omega
            have hc0 := hc1.old
            have hnil := own_start (α := Int) (R := RI) 3 hc1
            have hlen0 : (([] : List Int).length + (cur.take k).length) * 8 ≤ 140737488355328 := by simp; omega
            have hlen1 : (([] ++ cur.take k).length + (cur.drop (k + 1)).length) * 8 ≤ 140737488355328 := by simp; omega
            have hlr := remI_length hlt
            have hlm : ∀ y ∈ remI cur k, 0 ≤ y ∧ y < l.length := fun y hy => hcm y (remI_mem hy)
            have hch := chosenI_len hl1000 (remI cur k)
            have hsm3 : bulkR (chosenI l (remI cur k)) + bulkR p ≤ 500000 := by
              have : (remI cur k).length * (1000 + 1) ≤ 200 * (1000 + 1) := Nat.mul_le_mul_right _ (by omega)
              omega
            have hsm4 : (remI cur k).length ≤ 1000000 := by omega
            have Hch := Lib.hid hch
            clear hch
            cases hok : refutesI (chosenI l (remI cur k)) p
            · go_wp2_with (first | ((with_reducible refine w_slice elI ?_ hc0 0 k ?_ ?_ (Nat.zero_le _) (Nat.le_of_lt hlt) ?_); (· rfl); (· exact (.inl ⟨rfl, rfl⟩)); (· exact (.inr ⟨.i64, rfl⟩)); rintro v1 hs1; have hs2 : Ints _ _ v1 (cur.take k) := hs1; simp only [Act.put, List.setIfInBounds_toArray, List.set_cons_succ, List.set_cons_zero]) | ((with_reducible refine w_app elI ?_ ?_ hnil hs2 (fun b hb _ => ⟨hb, by simp [Value.ownBlock]⟩) (Nat.le_refl _) hlen0 (by decide) ?_); (· rfl); (· rfl); rintro v3 w3 ho3 hb3 _ _; have hc3 := hc0.ext hb3; simp only [Act.put, List.setIfInBounds_toArray, List.set_cons_succ, List.set_cons_zero]) | ((with_reducible refine w_slice elI ?_ hc3 (k + 1) cur.length ?_ ?_ (Nat.succ_le_of_lt hlt) (Nat.le_refl _) ?_); (· rfl); (· exact (.inr ⟨.i64, by go_num⟩)); (· exact (.inl ⟨rfl, rfl⟩)); rintro v4 hs4; rw [take_all] at hs4; simp only [Act.put, List.setIfInBounds_toArray, List.set_cons_succ, List.set_cons_zero]) | ((with_reducible refine w_app elI ?_ ?_ ho3 hs4 (fun b hb _ => ⟨hb, fun hc => absurd hb (Nat.not_lt.2 (ho3.lt b hc).1)⟩) (hb3.size) hlen1 (by decide) ?_); (· rfl); (· rfl); rintro v5 w5 ho5 hb5 _ _; have hx5 : Ext _ _ := Below.trans hb3 hb5; have hb6 := Ext.cell hx5 hb2; have hu5 := hu2.ext hx5; have hc5 : Ints _ _ _ (remI cur k) := ho5.arr; simp only [Act.put, List.setIfInBounds_toArray, List.set_cons_succ, List.set_cons_zero]) | (go_at_call 47; refine (chosen_c _ hu5 hc5 hlm hsm4).mono ?_; rintro e w7 ⟨y, rfl, ho7, hx7⟩; have hv7 := (hv2.ext hx5).ext hx7) | (go_at_call 24; refine (refutes_c _ ho7.arr hv7 hsm3).mono ?_; rintro e w8 ⟨rfl, hx8⟩))
              go_roundw
              case rel => exact ⟨k, cur, by omega, hcl, hcm, by go_num, by show _ = _; rw [← hn.out, prune, if_neg (by simp [hok])], ((hc1.ext hx5).ext hx7).ext hx8, ((hx1.trans hx5).trans hx7).trans hx8⟩
              case measure => simp [intOf]
            · go_wp2_with (first | ((with_reducible refine w_slice elI ?_ hc0 0 k ?_ ?_ (Nat.zero_le _) (Nat.le_of_lt hlt) ?_); (· rfl); (· exact (.inl ⟨rfl, rfl⟩)); (· exact (.inr ⟨.i64, rfl⟩)); rintro v1 hs1; have hs2 : Ints _ _ v1 (cur.take k) := hs1; simp only [Act.put, List.setIfInBounds_toArray, List.set_cons_succ, List.set_cons_zero]) | ((with_reducible refine w_app elI ?_ ?_ hnil hs2 (fun b hb _ => ⟨hb, by simp [Value.ownBlock]⟩) (Nat.le_refl _) hlen0 (by decide) ?_); (· rfl); (· rfl); rintro v3 w3 ho3 hb3 _ _; have hc3 := hc0.ext hb3; simp only [Act.put, List.setIfInBounds_toArray, List.set_cons_succ, List.set_cons_zero]) | ((with_reducible refine w_slice elI ?_ hc3 (k + 1) cur.length ?_ ?_ (Nat.succ_le_of_lt hlt) (Nat.le_refl _) ?_); (· rfl); (· exact (.inr ⟨.i64, by go_num⟩)); (· exact (.inl ⟨rfl, rfl⟩)); rintro v4 hs4; rw [take_all] at hs4; simp only [Act.put, List.setIfInBounds_toArray, List.set_cons_succ, List.set_cons_zero]) | ((with_reducible refine w_app elI ?_ ?_ ho3 hs4 (fun b hb _ => ⟨hb, fun hc => absurd hb (Nat.not_lt.2 (ho3.lt b hc).1)⟩) (hb3.size) hlen1 (by decide) ?_); (· rfl); (· rfl); rintro v5 w5 ho5 hb5 _ _; have hx5 : Ext _ _ := Below.trans hb3 hb5; have hb6 := Ext.cell hx5 hb2; have hu5 := hu2.ext hx5; have hc5 : Ints _ _ _ (remI cur k) := ho5.arr; simp only [Act.put, List.setIfInBounds_toArray, List.set_cons_succ, List.set_cons_zero]) | (go_at_call 47; refine (chosen_c _ hu5 hc5 hlm hsm4).mono ?_; rintro e w7 ⟨y, rfl, ho7, hx7⟩; have hv7 := (hv2.ext hx5).ext hx7) | (go_at_call 24; refine (refutes_c _ ho7.arr hv7 hsm3).mono ?_; rintro e w8 ⟨rfl, hx8⟩))
              go_roundw
              case rel => exact ⟨k, remI cur k, by omega, by omega, hlm, by go_num, by show _ = _; rw [← hn.out, prune, if_pos hok], ((ho5.arr.any).ext hx7).ext hx8, ((hx1.trans hx5).trans hx7).trans hx8⟩
              case measure => simp [intOf]
  · have Hz := Lib.hid hz
    go_enter Try.func19, Try.ntmps19
    go_wp2_with (first | (go_at_call 14; refine (rverify_c _ _ (hu.ext (Ext.of_alloc _ _)) (hv.ext (Ext.of_alloc _ _)) hsm).mono ?_; rintro e w1 ⟨rfl, hx1⟩))
    go_ret2
    refine ⟨_, rfl, ⟨_, rfl, ?_⟩, (Ext.of_alloc w _).trans hx1⟩
    try rw [if_pos Hz.out]
    exact Arr.nil'

set_option maxHeartbeats 2000000 in
theorem few42_c {P : Nat → Prop} {u : Value} {l : List (List Int)} (w : World) (hv : Rows P w u l) :
    Calls Try.prog 36 #[u] w fun e w' => e = .returned (.bool (few2B l)) ∧ w' = w := by
  have hle := hv.le
  have hck : Hid (few2B l = if few2I 0 l = true then decide (l.length ≤ 20 ∨ 32768 < l.length) else false) := rfl
  go_enter Try.func36, Try.ntmps36
  go_wp2
  go_loop [3] (fun i => ∃ k : Nat, k ≤ l.length ∧ i = .int .i64 k ∧ Hid (few2I k (l.drop k) = few2I 0 l)) (fun i => l.length - (intOf i).toNat)
  case atStart => exact ⟨0, Nat.zero_le _, rfl, rfl⟩
  case round =>
    obtain ⟨k, hk, rfl, hn⟩ := hrel
    have hlast : few2I 0 l = true → ∀ b : Bool, b = decide (l.length ≤ 20 ∨ 32768 < l.length) → Hid (few2B l = b) := fun h b hb => by show _ = _; rw [hck.out, if_pos h, hb]
    have Hlast := Lib.hid hlast
    clear hlast
    by_cases hlt : k < l.length
    · have hst := Lib.hid (few2I_step hlt)
      by_cases h50 : k < 40
      · go_wp2_with (first | ((with_reducible refine w_len elR.und ?_ ?_ hv.len ?_); (· rfl); (· rfl); simp only [Act.put, List.setIfInBounds_toArray, List.set_cons_succ, List.set_cons_zero]) | ((with_reducible refine w_ix elR ?_ ?_ ?_ ?_ ?_ hv hlt ?_); (· rfl); (· exact fun _ => rfl); (· exact fun _ => rfl); (· rfl); (· rfl); intro _ x hxx h1x; simp only [Act.put, List.setIfInBounds_toArray, List.set_cons_succ, List.set_cons_zero]) | ((with_reducible refine w_len elI.und ?_ ?_ (Arr.len hxx) ?_); (· rfl); (· rfl); simp only [Act.put, List.setIfInBounds_toArray, List.set_cons_succ, List.set_cons_zero]))
        · go_ret
          have e : few2I 0 l = false := by rw [← hn.out, hst.out, if_pos h50, if_pos (by omega)]
          exact ⟨ret_b (by rw [hck.out, e]; rfl), rfl⟩
        · go_round
          case rel => exact ⟨k + 1, hlt, by go_num, by show _ = _; rw [← hn.out, hst.out, if_pos h50, if_neg (by omega)]⟩
          case measure => simp [intOf]; omega
      · have ht : few2I 0 l = true := by rw [← hn.out, hst.out, if_neg h50]
        have h20 : ¬ l.length ≤ 20 := by omega
        have hd20 : decide ((l.length : Int) ≤ 20) = false := decide_eq_false (by omega)
        by_cases hbig : 32768 < l.length
        · go_wp2_with (first | ((with_reducible refine w_len elR.und ?_ ?_ hv.len ?_); (· rfl); (· rfl); simp only [Act.put, List.setIfInBounds_toArray, List.set_cons_succ, List.set_cons_zero]))
          go_ret
          exact ⟨ret_b (Hlast.out ht _ (by rw [decide_eq_decide]; omega)).out.symm, rfl⟩
        · go_wp2_with (first | ((with_reducible refine w_len elR.und ?_ ?_ hv.len ?_); (· rfl); (· rfl); simp only [Act.put, List.setIfInBounds_toArray, List.set_cons_succ, List.set_cons_zero]))
          go_ret
          exact ⟨ret_b (Hlast.out ht _ (by rw [decide_eq_decide]; omega)).out.symm, rfl⟩
    · obtain rfl : k = l.length := by omega
      have ht : few2I 0 l = true := by rw [← hn.out, List.drop_length, few2I]
      by_cases h20 : l.length ≤ 20
      · go_wp2_with (first | ((with_reducible refine w_len elR.und ?_ ?_ hv.len ?_); (· rfl); (· rfl); simp only [Act.put, List.setIfInBounds_toArray, List.set_cons_succ, List.set_cons_zero]))
        go_ret
        exact ⟨ret_b (Hlast.out ht _ (by simp [h20])).out.symm, rfl⟩
      · have hd20 : decide ((l.length : Int) ≤ 20) = false := decide_eq_false (by omega)
        by_cases hbig : 32768 < l.length
        · go_wp2_with (first | ((with_reducible refine w_len elR.und ?_ ?_ hv.len ?_); (· rfl); (· rfl); simp only [Act.put, List.setIfInBounds_toArray, List.set_cons_succ, List.set_cons_zero]))
          go_ret
          exact ⟨ret_b (Hlast.out ht _ (by rw [decide_eq_decide]; omega)).out.symm, rfl⟩
        · go_wp2_with (first | ((with_reducible refine w_len elR.und ?_ ?_ hv.len ?_); (· rfl); (· rfl); simp only [Act.put, List.setIfInBounds_toArray, List.set_cons_succ, List.set_cons_zero]))
          go_ret
          exact ⟨ret_b (Hlast.out ht _ (by rw [decide_eq_decide]; omega)).out.symm, rfl⟩

end Go.Proofs.Ytjifihfkoflbiaa
