/-
  refute.both: the iterator over two lists, in the words of the kit's law on ranges over functions.
-/
import Derived.Test.YtjifihfkoflbiaaIn
import Derived.Test.YtjifihfkoflbiaaProver
namespace Go.Proofs.Ytjifihfkoflbiaa
open Go.RowKit Go.Shelf

attribute [local go_sem] Oper.semAt_some

theorem elRR : ElT Try.prog 91 22 1 (.slice none 0 0) 24 false := ⟨Try.underlying91, by kernel_rfl, Try.isAgg22, rfl⟩

theorem RW.good_but {bad : Nat → Prop} {W W' : World} {v : Value} {xs : List Value} (h : Arr RW (fun k => ¬ bad k) W v xs) (hk : KeepsBut bad W W') : Arr RW (fun k => ¬ bad k) W' v xs := by
  obtain ⟨a, cap, hv, h1, h2, h3⟩ := h
  exact ⟨a, cap, hv, h1, h2, fun k hlt => let ⟨u, b, off, r1, r2, r3, r4, r5⟩ := h3 k hlt; ⟨u, b, off, r1, r2, r3, r4, hk.cell (p := ⟨b, off + k, none⟩) r4 r5⟩⟩

set_option maxRecDepth 100000 in
set_option maxHeartbeats 4000000 in
theorem both1_in {α : Type} (f : α → Value) (F : Fence) (n : Nat) (h65 : F.fn 65) (hro : F.round = none) (hn : 1 ≤ n) (l Bu Bv : Nat) (bad : Nat → Prop) (xs ys : List α) (u v : Value) (J Jx : List α → World → Prop)
    (hY : ∀ pre x W, J pre W → pre.length < (xs ++ ys).length → YieldAt F (n - 1) Try.prog l #[f x] W fun e W' =>
      (e = .returned (.bool true) ∧ J (pre ++ [x]) W' ∧ KeepsBut bad W W') ∨ (e = .returned (.bool false) ∧ Jx (pre ++ [x]) W'))
    (W : World) (hJ : AbidesFrom W.heap.size J) (hbad : ∀ k, bad k → k < W.heap.size) (hBu : W.cell? ⟨Bu, 0, none⟩ = some u) (hBv : W.cell? ⟨Bv, 0, none⟩ = some v)
    (hu : Arr RW (fun k => ¬ bad k) W u (xs.map f)) (hv : Arr RW (fun k => ¬ bad k) W v (ys.map f)) (h0 : J [] W) :
    CallsIn F n Try.prog 65 #[.func (.yield l) #[] #[], .pointer (some ⟨Bu, 0, none⟩), .pointer (some ⟨Bv, 0, none⟩)] W fun e W' => (∃ v, e = .returned v) ∧
      ((∃ zs, zs = xs ++ ys ∧ J zs W') ∨ (∃ pre, pre <+: xs ++ ys ∧ Jx pre W')) := by
  obtain ⟨au, cu, rfl⟩ := hu.len
  obtain ⟨av, cv, rfl⟩ := hv.len
  simp only [List.length_map] at hu hv hBu hBv
  have hB0 : Ext W (W.alloc (.cells #[.slice au xs.length cu, .slice av ys.length cv] 22)) := Ext.of_alloc _ _
  have hpair : Arr RW anyB (W.alloc (.cells #[.slice au xs.length cu, .slice av ys.length cv] 22)) (.slice (some ⟨W.heap.size, 0, none⟩) 2 2) [.slice au xs.length cu, .slice av ys.length cv] :=
    ⟨_, 2, rfl, Nat.le_refl _, by simp [maxLen], fun k hk => ⟨_, W.heap.size, 0, rfl, by
      have : k = 0 ∨ k = 1 := by simp at hk; omega
      rcases this with rfl | rfl <;> rfl, rfl, trivial, by
      have : k = 0 ∨ k = 1 := by simp at hk; omega
      rcases this with rfl | rfl <;> (unfold World.cell?; rw [World.alloc_heap_new]; rfl)⟩⟩
  have hJ1 : J [] (W.alloc (.cells #[.slice au xs.length cu, .slice av ys.length cv] 22)) := hJ [] W _ none h0 (World.grownBy_alloc W _ none) (fun r e => by cases e)
  have hpb : Arr RW (fun k => ¬ bad k) (W.alloc (.cells #[.slice au xs.length cu, .slice av ys.length cv] 22)) (.slice (some ⟨W.heap.size, 0, none⟩) 2 2) [.slice au xs.length cu, .slice av ys.length cv] := by
    obtain ⟨a, cap, h1, h2, h3, h4⟩ := hpair
    refine ⟨a, cap, h1, h2, h3, fun k hk => ?_⟩
    obtain ⟨w1, b, off, r1, r2, r3, r4, r5⟩ := h4 k hk
    cases h1
    cases r3
    exact ⟨w1, _, _, r1, r2, rfl, fun hc => absurd (hbad _ hc) (Nat.lt_irrefl _), r5⟩
  have hu0 : Arr RW (fun k => ¬ bad k) (W.alloc (.cells #[.slice au xs.length cu, .slice av ys.length cv] 22)) (.slice au xs.length cu) (xs.map f) := Good.ext (R := Arr RW) hu hB0
  have hv0 : Arr RW (fun k => ¬ bad k) (W.alloc (.cells #[.slice au xs.length cu, .slice av ys.length cv] 22)) (.slice av ys.length cv) (ys.map f) := Good.ext (R := Arr RW) hv hB0
  refine callsIn_of_wp Try.func65 rfl h65 ?_ hro
  simp only [Try.ntmps65, List.size_toArray, List.length_cons, List.length_nil, Nat.reduceAdd, Nat.reduceSub, Array.replicate_succ, Array.replicate_zero, List.push_toArray, List.append_toArray, List.nil_append, List.cons_append]
  clear hpair hu hv hB0 h0
  gi_wp2
  obtain ⟨W1, hW1⟩ : ∃ W1, W.alloc (.cells #[.slice au xs.length cu, .slice av ys.length cv] 22) = W1 := ⟨_, rfl⟩
  rw [hW1] at hJ1 hpb hu0 hv0 ⊢
  clear hBu hBv hbad hJ hW1
  obtain ⟨st, hst⟩ : ∃ st : Nat → List α, st = fun k => if k = 0 then [] else if k = 1 then xs else xs ++ ys := ⟨_, rfl⟩
  gi_loopw [12] (fun i wr => ∃ k : Nat, k ≤ 2 ∧ i = .int .i64 k ∧ J (st k) wr ∧ KeepsBut bad W1 wr) (fun i _ => 2 - (intOf i).toNat)
  case atStart => exact ⟨0, by omega, rfl, by rw [hst]; exact hJ1, KeepsBut.refl _ _⟩
  case round =>
    obtain ⟨k, hk, rfl, hJs, hkp⟩ := hrel
    by_cases hlt : k < 2
    · obtain ⟨zs, s, hs1, hs2, hs3, hs4, hs5⟩ : ∃ (zs : List α) (s : Value), st (k + 1) = st k ++ zs ∧ Arr RW (fun k => ¬ bad k) W1 s (zs.map f) ∧ ([Value.slice au xs.length cu, .slice av ys.length cv])[k]? = some s ∧ (st k).length + zs.length ≤ (xs ++ ys).length ∧ st (k + 1) <+: xs ++ ys := by
        have : k = 0 ∨ k = 1 := by omega
        rcases this with rfl | rfl
        · exact ⟨xs, _, by rw [hst]; rfl, hu0, rfl, by rw [hst]; simp, by rw [hst]; exact List.prefix_append _ _⟩
        · exact ⟨ys, _, by rw [hst]; rfl, hv0, rfl, by rw [hst]; simp, by rw [hst]; exact List.prefix_refl _⟩
      have hp2 := RW.good_but hpb hkp
      have hlt2 : k < ([Value.slice au xs.length cu, .slice av ys.length cv]).length := hlt
      have Hs1 := Lib.hid hs1
      have Hs3 := Lib.hid hs3
      have Hs4 := Lib.hid hs4
      have Hs5 := Lib.hid hs5
      clear hs1 hs3 hs4 hs5 hst hu0 hv0
      have hsl := hs2.len
      rw [List.length_map] at hsl
      have hd2 : decide ((k : Int) < 2) = true := decide_eq_true (by omega)
      have hzl := hs2.le
      rw [List.length_map] at hzl
      gi_wp2_with (first | (((with_reducible refine wi_ix elRR ?_ ?_ ?_ ?_ ?_ hp2 hlt2 ?_); (· rfl); (· exact fun _ => rfl); (· exact fun _ => rfl); (· rfl); (· rfl); intro _ y hy h1y; simp only [Act.put, List.setIfInBounds_toArray, List.set_cons_succ, List.set_cons_zero]); (obtain rfl : y = s := by have e1 := List.getElem?_eq_getElem hlt2; rw [Hs3.out] at e1; exact (show y = _ from hy).trans (Option.some.inj e1).symm)) | ((with_reducible refine wi_len elR.und ?_ ?_ hsl ?_); (· rfl); (· rfl); simp only [Act.put, List.setIfInBounds_toArray, List.set_cons_succ, List.set_cons_zero]))
      gi_loopw [18] (fun i wr' => ∃ j : Nat, j ≤ zs.length ∧ i = .int .i64 j ∧ J (st k ++ zs.take j) wr' ∧ KeepsBut bad W1 wr') (fun i _ => zs.length - (intOf i).toNat)
      case atStart => exact ⟨0, Nat.zero_le _, rfl, by simpa using hJs, hkp⟩
      case round =>
        obtain ⟨j, hj, rfl, hJj, hkj⟩ := hrel
        have hs6 := RW.good_but hs2 hkj
        by_cases hlj : j < zs.length
        · have hlf : j < (zs.map f).length := by rw [List.length_map]; exact hlj
          have htk : Hid (st k ++ zs.take (j + 1) = (st k ++ zs.take j) ++ [zs[j]]) := by show _ = _; rw [List.append_assoc, List.take_succ_eq_append_getElem hlj]
          have hpre : Hid (st k ++ zs.take j ++ [zs[j]] <+: xs ++ ys) := by
            show _ <+: _
            rw [← htk.out]
            refine List.IsPrefix.trans ?_ Hs5.out
            rw [Hs1.out]
            exact (List.prefix_append_right_inj _).2 (List.take_prefix _ _)
          obtain ⟨fn, tmps, assign, body, hy, hR⟩ := hY _ zs[j] _ hJj (by have := Hs4.out; simp only [List.length_append, List.length_take] at this ⊢; omega)
          gi_wp2_with (first | (((with_reducible refine wi_ix elR ?_ ?_ ?_ ?_ ?_ hs6 hlf ?_); (· rfl); (· exact fun _ => rfl); (· exact fun _ => rfl); (· rfl); (· rfl); intro _ y2 hy2 h1y2; simp only [Act.put, List.setIfInBounds_toArray, List.set_cons_succ, List.set_cons_zero]); (obtain rfl : y2 = f zs[j] := (show y2 = _ from hy2).trans (by simp))))
          refine hR.mono ?_
          rintro e W3 (⟨rfl, hJ3, hk3⟩ | ⟨rfl, hJx3⟩)
          · gi_wp2
            go_roundw
            case rel => exact ⟨j + 1, hlj, by go_num, by rw [htk.out]; exact hJ3, hkj.trans hk3⟩
            case measure => simp [intOf]; omega
          · gi_wp2
            refine bodyPost_ret (results_none rfl _ _ _) rfl ?_
            exact ⟨⟨_, rfl⟩, .inr ⟨_, hpre.out, hJx3⟩⟩
        · obtain rfl : j = zs.length := by omega
          have hdone : Hid (st (k + 1) = st k ++ zs.take zs.length) := by show _ = _; rw [Hs1.out, List.take_length]
          gi_wp2
          go_roundw
          case rel => exact ⟨k + 1, by omega, by go_num, by rw [hdone.out]; exact hJj, hkj⟩
          case measure => simp [intOf]; omega
    · obtain rfl : k = 2 := by omega
      have h2 : st 2 = xs ++ ys := by rw [hst]; rfl
      rw [h2] at hJs
      clear h2 hst
      gi_wp2
      go_end0
      exact ⟨⟨_, rfl⟩, .inl ⟨_, rfl, hJs⟩⟩

theorem both_stops {α : Type} (f : α → Value) (F : Fence) (n : Nat) (h65 : F.fn 65) (hro : F.round = none) (hn : 1 ≤ n) (Bu Bv : Nat) (bad : Nat → Prop) (xs ys : List α) (u v : Value) (w : World)
    (hbad : ∀ k, bad k → k < w.heap.size) (hBu : w.cell? ⟨Bu, 0, none⟩ = some u) (hBv : w.cell? ⟨Bv, 0, none⟩ = some v)
    (hu : Arr RW (fun k => ¬ bad k) w u (xs.map f)) (hv : Arr RW (fun k => ¬ bad k) w v (ys.map f)) :
    SeqStopsK F n Try.prog 65 #[.pointer (some ⟨Bu, 0, none⟩), .pointer (some ⟨Bv, 0, none⟩)] (fun x : α => #[f x]) (KeepsBut bad) (fun zs => zs = xs ++ ys) (fun pre => pre <+: xs ++ ys) (xs ++ ys).length w :=
  fun l J Jx W hW hJ _ hY h0 => by
    have e : Ext w W := hW
    exact both1_in f F n h65 hro hn l Bu Bv bad xs ys u v J Jx hY W hJ (fun k hk => Nat.lt_of_lt_of_le (hbad k hk) e.size) (e.cell hBu) (e.cell hBv) (Good.ext (R := Arr RW) hu e) (Good.ext (R := Arr RW) hv e) h0

theorem both_c {P P' : Nat → Prop} {u v : Value} {l p : List (List Int)} (w : World) (hu : Rows P w u l) (hv : Rows P' w v p) :
    Calls Try.prog 52 #[u, v] w fun e w' => e = .returned (.func (.func 65) #[] #[.pointer (some ⟨w.heap.size, 0, none⟩), .pointer (some ⟨w.heap.size + 1, 0, none⟩)]) ∧ w' = (w.alloc (.cells #[u] 22)).alloc (.cells #[v] 22) := by
  obtain ⟨au, cu, rfl⟩ := hu.len
  obtain ⟨av, cv, rfl⟩ := hv.len
  go_enter Try.func52, Try.ntmps52
  go_wp2
  go_ret
  exact ⟨rfl, rfl⟩

end Go.Proofs.Ytjifihfkoflbiaa
