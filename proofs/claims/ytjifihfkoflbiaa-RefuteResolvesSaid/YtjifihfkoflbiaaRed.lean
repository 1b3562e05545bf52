/-
  refute.reduced: it leaves out, from the last one to the first, what the rest will do without; the rows of what is left, and their indexes.
-/
import Derived.Test.YtjifihfkoflbiaaDel
import Derived.Shelf.Abstract
namespace Go.Proofs.Ytjifihfkoflbiaa
open Go.RowKit

/-- a reading of what lies below c, and where Q says, wherever the row itself lies -/
def Fix {α : Type} (c : Nat) (Q : Nat → Prop) (R : Rel α) : Rel α := fun P w u x => R (fun k => Q k ∧ k < c) w u x ∧ c ≤ w.heap.size ∧ ∀ k, k < c → P k
instance {α : Type} (c : Nat) (Q : Nat → Prop) (R : Rel α) [Good R] : Good (Fix c Q R) where
  weak := fun ⟨h1, h2, h3⟩ hP => ⟨h1, h2, fun k hk => hP k (h3 k hk)⟩
  move := fun {P w w' v x} ⟨h1, h2, h3⟩ hm => by
    refine ⟨Good.move h1 fun k hk hlt => hm k (h3 k hk.2) hlt, ?_, h3⟩
    by_cases hc : c = 0
    · omega
    · have hlt : c - 1 < w.heap.size := by omega
      have := hm (c - 1) (h3 _ (by omega)) hlt
      rw [Array.getElem?_eq_getElem hlt] at this
      have := (Array.getElem?_eq_some_iff.1 this).1
      omega
  bound := fun ⟨h1, h2, h3⟩ => ⟨h1, h2, fun k hk => ⟨h3 k hk, Nat.lt_of_lt_of_le hk h2⟩⟩

section
set_option linter.unusedSectionVars false
variable {α : Type} {R : Rel α} [Good R] {P P' : Nat → Prop} {w : World} {v : Value} {xs : List α} {c B : Nat} {e : TypeId} {Q : Nat → Prop}
theorem Arr.imp {R' : Rel α} (h : Arr R P w v xs) (hi : ∀ u x, R P w u x → R' P w u x) : Arr R' P w v xs :=
  let ⟨a, cap, hv, h1, h2, h3⟩ := h; ⟨a, cap, hv, h1, h2, fun k hk => let ⟨u, b, off, r1, r2, r3, r4, r5⟩ := h3 k hk; ⟨u, b, off, hi _ _ r1, r2, r3, r4, r5⟩⟩
theorem Arr.fix (h : Arr R P w v xs) : Arr (Fix w.heap.size P R) (fun k => k < w.heap.size) w v xs := by
  obtain ⟨a, cap, hv, h1, h2, h3⟩ := (Good.bound (R := Arr R) h : Arr R (fun k => P k ∧ k < w.heap.size) w v xs)
  exact ⟨a, cap, hv, h1, h2, fun k hk => let ⟨u, b, off, r1, r2, r3, r4, r5⟩ := h3 k hk; ⟨u, b, off, ⟨r1, Nat.le_refl _, fun _ hk => hk⟩, r2, r3, r4.2, r5⟩⟩
theorem Fix.out {u : Value} {x : α} (h : Fix c Q R P w u x) : R P w u x := Good.weak h.1 fun k hk => h.2.2 k hk.2
theorem Arr.unfix (h : Arr (Fix c Q R) P w v xs) : Arr R P w v xs := Arr.imp h fun _ _ h => h.out
/-- the elements lie where they lay -/
theorem Own.unfix (h : Own B e (Fix c Q R) P w v xs) (hc : c ≤ B) : Own B e R (fun k => Q k ∧ k < c) w v xs := by
  obtain ⟨us, hl, ho, he⟩ := h
  refine ⟨us, hl, ho, fun k h1 h2 => ⟨(he k h1 h2).1, Good.weak (he k h1 h2).2.1 fun b hb => ⟨hb, fun hc' => ?_⟩⟩⟩
  have := (ho.lt b hc').1
  omega
theorem Own.fix (h : Own B e (Fix c Q R) P w v xs) (hc : c ≤ B) : Own B e (Fix c Q R) (fun k => k < c) w v xs := by
  obtain ⟨us, hl, ho, he⟩ := h
  refine ⟨us, hl, ho, fun k h1 h2 => ⟨(he k h1 h2).1, (he k h1 h2).2.1, (he k h1 h2).2.2.1, fun j hj => ⟨hj, fun hc' => ?_⟩⟩⟩
  have := (ho.lt j hc').1
  omega
end

theorem chosenI_remI (l : List (List Int)) (ks : List Int) (i : Nat) : remI (chosenI l ks) i = chosenI l (remI ks i) := by
  unfold remI chosenI
  rw [List.map_append, List.map_take, List.map_drop]
theorem chosenI_up (l : List (List Int)) : chosenI l (upI l.length) = l := by
  unfold chosenI upI
  apply List.ext_getElem
  · simp
  · intro i h1 h2
    simp at h1
    simp [h1]
theorem chosenI_length (l : List (List Int)) (ks : List Int) : (chosenI l ks).length = ks.length := by simp [chosenI]
theorem chosenI_mem {l : List (List Int)} {ks : List Int} (h : ∀ y ∈ ks, 0 ≤ y ∧ y < l.length) : ∀ c ∈ chosenI l ks, c ∈ l := by
  intro c hc
  simp only [chosenI, List.mem_map] at hc
  obtain ⟨y, hy, rfl⟩ := hc
  have := h y hy
  have hlt : y.toNat < l.length := by omega
  rw [List.getD_eq_getElem?_getD, List.getElem?_eq_getElem hlt]
  exact List.getElem_mem hlt
theorem prune_chosen (l : List (List Int)) (ok : List (List Int) → Bool) : ∀ (k : Nat) (ks : List Int), chosenI l (prune (fun x => ok (chosenI l x)) k ks) = prune ok k (chosenI l ks)
  | 0, _ => rfl
  | k + 1, ks => by
    simp only [prune]
    rw [prune_chosen l ok k, chosenI_remI]
    split <;> rfl
theorem prune_sub {α : Type} {ok : List α → Bool} : ∀ (k : Nat) (l : List α), (∀ y ∈ prune ok k l, y ∈ l) ∧ (prune ok k l).length ≤ l.length
  | 0, l => ⟨fun _ h => h, Nat.le_refl _⟩
  | k + 1, l => by
    simp only [prune]
    have hr : (remI l k).length ≤ l.length := by unfold remI; simp; omega
    split
    · have h := prune_sub (ok := ok) k (remI l k)
      refine ⟨fun y hy => ?_, Nat.le_trans h.2 hr⟩
      have := h.1 y hy
      unfold remI at this
      rcases List.mem_append.1 this with h' | h'
      · exact List.mem_of_mem_take h'
      · exact List.mem_of_mem_drop h'
    · exact prune_sub k l

/-- which indexes are left -/
def keptI (ok : List (List Int) → Bool) (l : List (List Int)) (k : Nat) : List Int := prune (fun x => ok (chosenI l x)) k (upI l.length)

set_option maxRecDepth 100000 in
set_option maxHeartbeats 4000000 in
theorem reduced_c {P : Nat → Prop} {u : Value} {l : List (List Int)} (K : Nat) (g : Nat) (lb : Array Value) (ok : List (List Int) → Bool) (w : World) (hu : Rows P w u l) (hK : K ≤ l.length) (hsz : l.length ≤ 1000000)
    (eg : ∀ args w, (callFunc g args).run Try.prog w = .ok (.enter g args) w)
    (hf : ∀ (W : World) (v : Value) (xs : List (List Int)), Ext w W → Rows anyB W v xs → (∀ c ∈ xs, c ∈ l) → xs.length ≤ l.length → Calls Try.prog g (#[v] ++ lb) W fun e W' => e = .returned (.bool (ok xs)) ∧ Ext W W') :
    Calls Try.prog 42 #[u, .int .i64 (K : Int), .func (.func g) #[] lb] w (RetP (fun w' r => ∃ x y, r = .tuple #[x, y] ∧ Own w.heap.size 37 (Fix w.heap.size P (Arr RI)) (fun k => k < w.heap.size) w' x (chosenI l (keptI ok l K)) ∧ Own w.heap.size 3 RI noB w' y (keptI ok l K)) w) := by
  have hle := hu.le
  have hu0 := hu.fix
  clear hu
  have HF := Lib.hid hf
  clear hf
  go_enter Try.func42, Try.ntmps42
  go_wp2_with ((with_reducible refine w_len elR.und ?_ ?_ hu0.len ?_); (· rfl); (· rfl); simp only [Act.put, List.setIfInBounds_toArray, List.set_cons_succ, List.set_cons_zero])
  go_loopw [8, 14] (fun x i wr => ∃ (k : Nat), k ≤ l.length ∧ i = .int .i64 (k : Int) ∧ Own w.heap.size 3 RI noB wr x (upI k) ∧ Ext w wr) (fun _ i _ => l.length - (intOf i).toNat)
  case atStart => exact ⟨0, Nat.zero_le _, rfl, Own.nil, Ext.refl _⟩
  case round =>
    obtain ⟨k, hk, rfl, ho, hx1⟩ := hrel
    have hlu : (upI k).length ≤ 1000000000 := by rw [upI_length]; omega
    by_cases hlt : k < l.length
    · go_wp2_with (first | ((with_reducible refine w_pushI elI ?_ ?_ ?_ ((k : Int)) ?_ ho hx1.size hlu ?_); (· exact fun _ => rfl); (· rfl); (· rfl); (· rfl); rintro _ v' w' ho' hb' _ _; simp only [Act.put, List.setIfInBounds_toArray, List.set_cons_succ, List.set_cons_zero]))
      go_roundw
      case rel => exact ⟨k + 1, hlt, by go_num, by rw [upI_succ]; exact ho', Below.trans hx1 hb'⟩
      case measure => simp [intOf]; omega
    · obtain rfl : k = l.length := by omega
      have hu1 := hu0.ext hx1
      have hl24 : l.length * 24 ≤ 140737488355328 := by omega
      go_wp2_with (go_at_call 27; refine (rclone_c _ hu1 hl24).mono ?_; rintro e w2 ⟨v2, rfl, ho2, hx2⟩)
      have ho3 : Own w.heap.size 37 (Fix w.heap.size P (Arr RI)) (fun k => k < w.heap.size) w2 v2 (chosenI l (upI l.length)) := by rw [chosenI_up]; exact ((ho2.fix hx1.size).mono hx1.size (fun _ h => h))
      have hk3 := ho.ext hx2
      have hsep : Hid (Sep v2 _) := Lib.hid (by
        show Sep v2 _
        cases hv : v2.ownBlock with
        | none => exact .inl hv
        | some b => exact .inr (fun hc => by
            have h1 := (ho2.lt b hv).1
            have h2 := (ho.lt b (hc.symm.trans hv)).2
            omega))
      have hx3 := hx1.trans hx2
      clear ho ho2 hx2 hx1 hu1 hlu hlt hk
      go_loopw [0, 8, 10] (fun x y i wr => ∃ (k : Nat) (ks : List Int), k ≤ ks.length ∧ ks.length ≤ l.length ∧ (∀ y ∈ ks, 0 ≤ y ∧ y < l.length) ∧ i = .int .i64 ((k : Int) - 1) ∧ Hid (prune (fun x => ok (chosenI l x)) k ks = keptI ok l K) ∧
        Own w.heap.size 37 (Fix w.heap.size P (Arr RI)) (fun k => k < w.heap.size) wr x (chosenI l ks) ∧ Own w.heap.size 3 RI noB wr y ks ∧ Hid (Sep x y) ∧ Ext w wr) (fun _ _ i _ => (intOf i + 1).toNat)
      case atStart => exact ⟨K, upI l.length, by rw [upI_length]; exact hK, by rw [upI_length]; exact Nat.le_refl _, fun y hy => upI_mem hy, rfl, rfl, ho3, hk3, hsep, hx3⟩
      case round =>
        obtain ⟨k, ks, hk, hkl, hkm, rfl, hn, ho, hkp, hsp, hx⟩ := hrel
        cases k with
        | zero =>
          rw [show (((0 : Nat) : Int) - 1) = -1 from rfl]
          go_wp2
          go_ret2
          refine ⟨_, rfl, ⟨_, _, rfl, ?_, ?_⟩, hx⟩
          · rw [← hn.out]; exact ho
          · rw [← hn.out]; exact hkp
        | succ k =>
          rw [show (((k + 1 : Nat) : Int) - 1) = (k : Int) from by omega]
          have hlt : k < ks.length := by omega
          have hltc : k < (chosenI l ks).length := by rw [chosenI_length]; exact hlt
          have hl24 : (chosenI l ks).length * 24 ≤ 140737488355328 := by rw [chosenI_length]; omega
          have hrl := remI_length hlt
          have hrm : ∀ y ∈ remI ks k, 0 ≤ y ∧ y < l.length := fun y hy => hkm y (remI_mem hy)
          have HRM := Lib.hid hrm
          clear hrm
          have hoa := ho.arr
          have hmem : Hid (∀ c ∈ chosenI l (remI ks k), c ∈ l) := chosenI_mem HRM.out
          have hlen : (chosenI l (remI ks k)).length ≤ l.length := by rw [chosenI_length]; omega
          have hrr := Lib.hid (chosenI_remI l ks k)
          have hK2 : (k : Int) + 1 = (k : Int) + 1 := rfl
          clear hK2
          go_wp2_with (first | (go_at_call 27; refine (rclone_c _ hoa hl24).mono ?_; rintro e w2 ⟨v2, rfl, ho2, hx2⟩) | (go_at_call 26; refine (rdel_c _ ho2 hltc).mono ?_; rintro e w3 ⟨v3, rfl, ho3, hg3, hb3⟩))
          have hx3 : Ext wr w3 := Below.grown hx2 hg3 hx2.size (fun r hr => (ho2.lt r hr).1)
          have hx30 : Ext w w3 := hx.trans hx3
          have ho4 := (ho3.fix hx.size).mono hx.size (fun _ h => h)
          rw [hrr.out] at ho4
          have hkp3 := hkp.ext hx3
          have hC := HF.out w3 v3 _ hx30 ((Arr.unfix ho4.arr).any) hmem.out hlen
          have hsep3 : v3.ownBlock = none ∨ v3.ownBlock ≠ (Value.ownBlock _) := (by
            cases hv : v3.ownBlock with
            | none => exact .inl rfl
            | some b => exact .inr (fun hc => by
                have h1 := (ho3.lt b hv).1
                have h2 := (hkp.lt b hc.symm).2
                omega) : v3.ownBlock = none ∨ v3.ownBlock ≠ u8.ownBlock)
          clear ho3 ho2 hg3 hx2 hrr hoa hltc hl24 hb3
          cases hok : ok (chosenI l (remI ks k))
          · rw [hok] at hC
            go_wp2_with (go_at_fn g; refine hC.mono ?_; rintro e w4 ⟨rfl, hx4⟩)
            go_roundw
            case rel => exact ⟨k, ks, by omega, hkl, hkm, by go_num, by show _ = _; rw [← hn.out, prune, if_neg (by simp [hok])], ho.ext (hx3.trans hx4), hkp3.ext hx4, hsp, hx30.trans hx4⟩
            case measure => simp [intOf]
          · rw [hok] at hC
            have Hsep3 := Lib.hid hsep3
            clear hsep3
            go_wp2_with (first | (go_at_fn g; refine hC.mono ?_; rintro e w4 ⟨rfl, hx4⟩; have hkp4 := hkp3.ext hx4) | (go_at_call 62; refine (idel_c _ hkp4 hlt).mono ?_; rintro e w5 ⟨v5, rfl, hkp5, hg5, hb5⟩))
            have ho5 := (ho4.ext hx4).kept hg5 Hsep3.out (fun r hr => Nat.not_lt.2 (hkp4.lt r hr).1)
            have hsp5 : Hid (Sep v3 v5) := Lib.hid (by
              show Sep v3 v5
              unfold Sep
              rw [hb5]; exact Hsep3.out)
            have hx5 : Ext w w5 := Below.grown (hx30.trans hx4) hg5 (hx30.trans hx4).size (fun r hr => (hkp4.lt r hr).1)
            clear hb5
            go_roundw
            case rel => exact ⟨k, remI ks k, by omega, by omega, HRM.out, by go_num, by show _ = _; rw [← hn.out, prune, if_pos hok], ho5, hkp5, hsp5, hx5⟩
            case measure => simp [intOf]

end Go.Proofs.Ytjifihfkoflbiaa
