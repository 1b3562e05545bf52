/-
  The contracts of the reference on refutations (roundtableref42), and of the reference's unit propagation: what each function hands back, for every world; all that lay lies as it lay.
-/
import Derived.Test.YtjifihfkoflbiaaSpec42
import Derived.Test.YtjifihfkoflbiaaRef41
namespace Go.Proofs.Ytjifihfkoflbiaa
open Go.RowKit

set_option maxHeartbeats 1000000 in
theorem neg_c {P : Nat → Prop} {u : Value} {c : List Int} (w : World) (hu : Ints P w u c) (hsm : c.length ≤ 1000000) :
    Calls Try.prog 67 #[u] w (RetP (fun w' v => Own w.heap.size 3 RI noB w' v (negI c)) w) := by
  have hle := hu.le
  go_enter Try.func67, Try.ntmps67
  go_wp2
  go_loopw [3, 4] (fun out i wr => ∃ (k : Nat) (acc : List Int), k ≤ c.length ∧ acc.length ≤ k ∧ i = .int .i64 k ∧ Hid (acc ++ negI (c.drop k) = negI c) ∧ Own w.heap.size 3 RI noB wr out acc ∧ Ext w wr) (fun _ i _ => c.length - (intOf i).toNat)
  case atStart => exact ⟨0, [], Nat.zero_le _, Nat.le_refl _, rfl, rfl, Own.nil, Ext.refl _⟩
  case round =>
    obtain ⟨k, acc, hk, hacc, rfl, hn, ho, hx⟩ := hrel
    have hu' := hu.ext hx
    by_cases hlt : k < c.length
    · have hst := Lib.hid (negI_step hlt)
      go_wp2_with (first | ((with_reducible refine w_len elI.und ?_ ?_ hu'.len ?_); (· rfl); (· rfl); simp only [Act.put, List.setIfInBounds_toArray, List.set_cons_succ, List.set_cons_zero]) | ((with_reducible refine w_ixI elI ?_ ?_ ?_ ?_ ?_ hu' hlt ?_); (· rfl); (· exact fun _ => rfl); (· exact fun _ => rfl); (· rfl); (· rfl); intro _; simp only [Act.put, List.setIfInBounds_toArray, List.set_cons_succ, List.set_cons_zero]) | ((with_reducible refine w_pushI elI ?_ ?_ ?_ (wrap64 (-c[k])) ?_ ho hx.size (by omega) ?_); (· exact fun _ => rfl); (· rfl); (· rfl); (· rfl); rintro _ v' w' ho' hb' _ _; simp only [Act.put, List.setIfInBounds_toArray, List.set_cons_succ, List.set_cons_zero]))
      go_roundw
      case rel => exact ⟨k + 1, acc ++ [wrap64 (-c[k])], hlt, by simp; omega, by go_num, by show _ = _; rw [← hn.out, hst.out, List.append_assoc]; rfl, ho', Below.trans hx hb'⟩
      case measure => simp [intOf]; omega
    · obtain rfl : k = c.length := by omega
      go_wp2_with ((with_reducible refine w_len elI.und ?_ ?_ hu'.len ?_); (· rfl); (· rfl); simp only [Act.put, List.setIfInBounds_toArray, List.set_cons_succ, List.set_cons_zero])
      go_ret
      refine ⟨_, rfl, ?_, hx⟩
      have := hn.out
      rw [List.drop_length, negI, List.map_nil, List.append_nil] at this
      rw [← this]; exact ho

theorem length_le_flatten {x : List Int} : ∀ {c : List (List Int)}, x ∈ c → x.length ≤ c.flatten.length
  | [], h => by cases h
  | y :: c, h => by
    simp only [List.flatten_cons, List.length_append]
    rcases List.mem_cons.1 h with rfl | h
    · omega
    · have := length_le_flatten h; omega
theorem openI_le (c : List (List Int)) (a : List Int) : openI c a ≤ c.flatten.length := List.length_filter_le _ _

set_option maxHeartbeats 2000000 in
theorem units_c {P P' : Nat → Prop} {u v : Value} {c : List (List Int)} {l : List Int} (w : World) (hu : Rows P w u c) (hv : Ints P' w v l) (hsm : l.length + c.flatten.length ≤ 1000000) :
    Calls Try.prog 66 #[u, v] w (RetP (fun w' r => ∃ x y ys, r = .tuple #[x, y, .int .i64 (unitsI c l).2] ∧ Own w.heap.size 3 RI noB w' x (unitsI c l).1 ∧ Own w.heap.size 3 RI noB w' y ys) w) := by
  have hle := hv.le
  have hsc : ∀ x ∈ c, x.length ≤ 1000000 := fun x hx => by
    have h1 : x.length ≤ c.flatten.length := by
      exact length_le_flatten hx
    omega
  go_enter Try.func66, Try.ntmps66
  go_wp2
  go_loopw [7, 8, 9] (fun x y i wr => ∃ (k : Nat) (acc ys : List Int), k ≤ l.length ∧ acc.length ≤ k ∧ ys.length ≤ acc.length ∧ i = .int .i64 k ∧ Hid (acc ++ l.drop k = l) ∧ Own w.heap.size 3 RI noB wr x acc ∧ Own w.heap.size 3 RI noB wr y ys ∧ Sep y x ∧ Ext w wr) (fun _ _ i _ => l.length - (intOf i).toNat)
  case atStart => exact ⟨0, [], [], Nat.zero_le _, Nat.le_refl _, Nat.le_refl _, rfl, rfl, Own.nil, Own.nil, .inl rfl, Ext.refl _⟩
  case round =>
    obtain ⟨k, acc, ys, hk, hacc, hys, rfl, hn, ho, hr, hsep, hx⟩ := hrel
    have hv' := hv.ext hx
    by_cases hlt : k < l.length
    · have hst := Lib.hid (List.drop_eq_getElem_cons hlt)
      go_wp2_with (first | ((with_reducible refine w_len elI.und ?_ ?_ hv'.len ?_); (· rfl); (· rfl); simp only [Act.put, List.setIfInBounds_toArray, List.set_cons_succ, List.set_cons_zero]) | ((with_reducible refine w_ixI elI ?_ ?_ ?_ ?_ ?_ hv' hlt ?_); (· rfl); (· exact fun _ => rfl); (· exact fun _ => rfl); (· rfl); (· rfl); intro _; simp only [Act.put, List.setIfInBounds_toArray, List.set_cons_succ, List.set_cons_zero]) | ((with_reducible refine w_pushI elI ?_ ?_ ?_ (l[k]) ?_ ho hx.size (by omega) ?_); (· exact fun _ => rfl); (· rfl); (· rfl); (· rfl); rintro _ x1 w1 ho1 hb1 hg1 hat1; have hr1 := hr.kept hg1 hsep (fun _ _ h => h); simp only [Act.put, List.setIfInBounds_toArray, List.set_cons_succ, List.set_cons_zero]) | ((with_reducible refine w_pushI elI ?_ ?_ ?_ ((-1)) ?_ hr1 (Nat.le_trans hx.size hb1.size) (by omega) ?_); (· exact fun _ => rfl); (· rfl); (· rfl); (· rfl); rintro _ y2 w2 hr2 hb2 hg2 hat2; simp only [Act.put, List.setIfInBounds_toArray, List.set_cons_succ, List.set_cons_zero]))
      go_roundw
      case rel =>
        have hs1 : Sep x1 _ := (Sep.pushed hsep (fun k h => (hr.lt k h).2) hat1 (by omega)).symm
        have hs2 := (Sep.pushed hs1 (fun k h => (ho1.lt k h).2) hat2 (by omega)).symm
        exact ⟨k + 1, acc ++ [l[k]], ys ++ [-1], hlt, by simp; omega, by simp; omega, by go_num, by show _ = _; rw [List.append_assoc]; exact (congrArg (acc ++ ·) hst.out.symm).trans hn.out, ho1.kept hg2 hs1 (fun _ _ h => h), hr2, hs2, Below.trans (Below.trans hx hb1) hb2⟩
      case measure => simp [intOf]; omega
    · obtain rfl : k = l.length := by omega
      have hacc' : acc = l := by have := hn.out; rwa [List.drop_length, List.append_nil] at this
      subst hacc'
      clear hn hlt hk
      have hu1 := hu.ext hx
      go_wp2_with (first | ((with_reducible refine w_len elI.und ?_ ?_ hv'.len ?_); (· rfl); (· rfl); simp only [Act.put, List.setIfInBounds_toArray, List.set_cons_succ, List.set_cons_zero]) | (go_at_call 70; refine (step_c _ hu1 ho.arr hsc).mono ?_; rintro e w1 ⟨r, rfl, ⟨o, rfl, hop⟩, hx1⟩))
      have ho1 := ho.ext hx1
      have hr1 := hr.ext hx1
      have hxx := hx.trans hx1
      clear ho hr hx hx1 hu1 hv'
      go_loopw [7, 8, 10, 11] (fun x y ix op wr => ∃ (a ys : List Int), Hid (unitsI c a = unitsI c acc) ∧ a.length + openI c a ≤ acc.length + openI c acc ∧ ys.length ≤ a.length ∧ ix = .int .i64 (stepIx (stepI 0 c a)) ∧ Ints anyB wr op (stepOpen (stepI 0 c a)) ∧ Own w.heap.size 3 RI noB wr x a ∧ Own w.heap.size 3 RI noB wr y ys ∧ Sep y x ∧ Ext w wr) (fun x _ _ _ _ => acc.length + openI c acc - slLen x)
      case atStart => exact ⟨acc, ys, rfl, Nat.le_refl _, hys, rfl, hop.any, ho1, hr1, hsep, hxx⟩
      case round =>
        obtain ⟨a, ys, hn, hsz, hys, rfl, hop, ho, hr, hsep, hx⟩ := hrel
        have hol := openI_le c acc
        have hsl := ho.len.sl
        have Hsl := Lib.hid hsl
        clear hsl
        by_cases hcont : ∃ i x, stepI 0 c a = some (i, [x])
        · obtain ⟨i, x, hs⟩ := hcont
          have hlt1 := openI_lt hs
          have hmore := Lib.hid (unitsI_more hs)
          rw [hs] at hop ⊢
          have hi : (i : Int) ≤ 9223372036854775807 := by
            obtain ⟨_, h2, _⟩ := stepI_some hs
            have := hu.le
            omega
          have h0 : 0 < (stepOpen (some (i, [x]))).length := by simp [stepOpen]
          have hu1 := hu.ext hx
          have hb : ((1 : Int) == 1) = true := rfl
          rw [show stepIx (some (i, [x])) = (i : Int) from rfl]
          replace hop : Ints anyB wr u11 [x] := hop
          replace h0 : 0 < [x].length := h0
          clear hs
          go_wp2_with (first | ((with_reducible refine w_len elI.und ?_ ?_ hop.len ?_); (· rfl); (· rfl); simp only [Act.put, List.setIfInBounds_toArray, List.set_cons_succ, List.set_cons_zero]) | ((with_reducible refine w_ixI elI ?_ ?_ ?_ ?_ ?_ hop h0 ?_); (· rfl); (· exact fun _ => rfl); (· exact fun _ => rfl); (· rfl); (· rfl); intro _; simp only [Act.put, List.setIfInBounds_toArray, List.set_cons_succ, List.set_cons_zero]) | ((with_reducible refine w_pushI elI ?_ ?_ ?_ (x) ?_ ho hx.size (by omega) ?_); (· exact fun _ => rfl); (· rfl); (· rfl); (· rfl); rintro _ x1 w1 ho1 hb1 hg1 hat1; have hr1 := hr.kept hg1 hsep (fun _ _ h => h); simp only [Act.put, List.setIfInBounds_toArray, List.set_cons_succ, List.set_cons_zero]) | ((with_reducible refine w_pushI elI ?_ ?_ ?_ ((i : Int)) ?_ hr1 (Nat.le_trans hx.size hb1.size) (by omega) ?_); (· exact fun _ => rfl); (· rfl); (· rfl); (· rfl); rintro _ y2 w2 hr2 hb2 hg2 hat2; have hx2 := Below.trans (Below.trans hx hb1) hb2; have hs1 := (Sep.pushed hsep (fun k h => (hr.lt k h).2) hat1 (by omega)).symm; have ho2 := ho1.kept hg2 hs1 (fun _ _ h => h); simp only [Act.put, List.setIfInBounds_toArray, List.set_cons_succ, List.set_cons_zero]) | (go_at_call 70; refine (step_c _ (hu.ext hx2) ho2.arr hsc).mono ?_; rintro e w3 ⟨r3, rfl, ⟨o3, rfl, hop3⟩, hx3⟩))
          go_roundw
          case rel =>
            have hs2 := (Sep.pushed hs1 (fun k h => (ho1.lt k h).2) hat2 (by omega)).symm
            exact ⟨a ++ [x], ys ++ [(i : Int)], by show _ = _; rw [← hmore.out, hn.out], by simp; omega, by simp; omega, rfl, hop3.any, ho2.ext hx3, hr2.ext hx3, hs2, below_ext hx2 hx2.size hx3⟩
          case measure =>
            have e1 := ho2.len.sl
            rw [e1, Hsl.out, List.length_append, List.length_singleton]
            omega
        · have hend := Lib.hid (unitsI_end (c := c) (a := a) (fun i x hs => hcont ⟨i, x, hs⟩))
          have hfin : Hid ((unitsI c acc).2 = stepIx (stepI 0 c a) ∧ (unitsI c acc).1 = a) := by
            show _ ∧ _; rw [← hn.out, hend.out]; exact ⟨rfl, rfl⟩
          have fin : ∀ (b z : Int), b = z → Ending.returned (.tuple #[u7, u8, .int .i64 b]) = Ending.returned (.tuple #[u7, u8, .int .i64 z]) := fun b z h => by rw [h]
          have hsm' : ∀ i o, stepI 0 c a = some (i, o) → o = [] ∧ (i : Int) ≤ 9223372036854775807 := fun i o hs => by
            obtain ⟨_, h2, _, _, _, _, h3⟩ := stepI_some hs
            have := hu.le
            refine ⟨?_, by omega⟩
            match o, h3, hs with
            | [], _, _ => rfl
            | [x], _, hs => exact absurd ⟨i, x, hs⟩ hcont
            | _ :: _ :: _, h3, _ => simp at h3; omega
          have Hsm := Lib.hid hsm'
          clear hsm' hend hcont
          cases hs : stepI 0 c a with
          | none =>
            have Hs := Lib.hid hs
            rw [hs] at hop
            rw [show stepIx none = (-1 : Int) from rfl]
            replace hop : Ints anyB wr u11 [] := hop
            clear hs
            go_wp2_with (first | ((with_reducible refine w_len elI.und ?_ ?_ hop.len ?_); (· rfl); (· rfl); simp only [Act.put, List.setIfInBounds_toArray, List.set_cons_succ, List.set_cons_zero]))
            go_ret3
            exact ⟨_, rfl, ⟨_, _, _, (by rw [hfin.out.1, Hs.out]; rfl), by rw [hfin.out.2]; exact ho, hr⟩, hx⟩
          | some r =>
            obtain ⟨i, o⟩ := r
            have Hs := Lib.hid hs
            obtain ⟨rfl, hi⟩ := Hsm.out i o hs
            rw [hs] at hop
            rw [show stepIx (some (i, [])) = (i : Int) from rfl]
            replace hop : Ints anyB wr u11 [] := hop
            clear hs
            have hb : ((0 : Int) == 1) = false := rfl
            go_wp2_with (first | ((with_reducible refine w_len elI.und ?_ ?_ hop.len ?_); (· rfl); (· rfl); simp only [Act.put, List.setIfInBounds_toArray, List.set_cons_succ, List.set_cons_zero]))
            go_ret3
            exact ⟨_, rfl, ⟨_, _, _, (by rw [hfin.out.1, Hs.out]; rfl), by rw [hfin.out.2]; exact ho, hr⟩, hx⟩

theorem follows_c {P P' : Nat → Prop} {u v : Value} {c : List (List Int)} {x : List Int} (w : World) (hu : Rows P w u c) (hv : Ints P' w v x) (hsm : x.length + c.flatten.length ≤ 1000000) :
    Calls Try.prog 53 #[u, v] w fun e w' => e = .returned (.bool (followsI c x)) ∧ Ext w w' := by
  have hl : (negI x).length = x.length := by simp [negI]
  have hl2 : (negI x).length + c.flatten.length ≤ 1000000 := by omega
  go_enter Try.func53, Try.ntmps53
  go_wp2_with (first | (go_at_call 67; refine (neg_c _ hv (by omega)).mono ?_; rintro e w1 ⟨r1, rfl, hr1, hx1⟩) | (go_at_call 66; refine (units_c _ (hu.ext hx1) hr1.arr hl2).mono ?_; rintro e w2 ⟨r2, rfl, ⟨p, q, ys, rfl, _, _⟩, hx2⟩))
  go_ret
  exact ⟨rfl, hx1.trans hx2⟩

/-- how many literals and clauses there are in all -/
def bulkR (l : List (List Int)) : Nat := l.length + l.flatten.length
theorem bulkR_append (l r : List (List Int)) : bulkR (l ++ r) = bulkR l + bulkR r := by simp [bulkR]; omega
theorem bulkR_cons (c : List Int) (l : List (List Int)) : bulkR (c :: l) = bulkR l + (c.length + 1) := by
  simp only [bulkR, List.flatten_cons, List.length_append, List.length_cons]; omega
theorem bulkR_one (c : List Int) : bulkR [c] = c.length + 1 := by simp [bulkR]; omega
theorem bulkR_mem {x : List Int} {l : List (List Int)} (h : x ∈ l) : x.length ≤ bulkR l := by have := length_le_flatten h; unfold bulkR; omega
theorem bulkR_take (l : List (List Int)) (k : Nat) : bulkR (l.take k) ≤ bulkR l := by
  have h := bulkR_append (l.take k) (l.drop k)
  rw [List.take_append_drop] at h; omega
theorem bulkR_drop (l : List (List Int)) (k : Nat) : bulkR (l.drop k) ≤ bulkR l := by
  have h := bulkR_append (l.take k) (l.drop k)
  rw [List.take_append_drop] at h; omega

set_option maxHeartbeats 2000000 in
theorem gap_c {P P' : Nat → Prop} {u v : Value} {l p : List (List Int)} (w : World) (hu : Rows P w u l) (hv : Rows P' w v p) (hsm : bulkR l + bulkR p ≤ 500000) :
    Calls Try.prog 41 #[u, v] w fun e w' => e = .returned (.int .i64 (gapI l p)) ∧ Ext w w' := by
  have hle := hv.le
  have hu0 := hu.old
  have hv0 := hv.old
  clear hu hv
  have hll : l.length ≤ bulkR l := by unfold bulkR; omega
  have hpl : p.length ≤ bulkR p := by unfold bulkR; omega
  go_enter Try.func41, Try.ntmps41
  have hnil : Own w.heap.size 37 (Arr RI) (fun k => k < w.heap.size) w (.slice none 0 0) ([] : List (List Int)) := Own.nil
  have hlen0 : (([] : List (List Int)).length + l.length) * 24 ≤ 140737488355328 := by simp; omega
  go_wp2_with ((with_reducible refine w_app elR ?_ ?_ hnil hu0 (fun b hb _ => ⟨hb, by simp [Value.ownBlock]⟩) (Nat.le_refl _) hlen0 (by decide) ?_); (· rfl); (· rfl); rintro v1 w1 ho1 hb1 _ _; simp only [Act.put, List.setIfInBounds_toArray, List.set_cons_succ, List.set_cons_zero])
  rw [List.nil_append] at ho1
  go_loopw [5, 6] (fun x i wr => ∃ (k : Nat) (all : List (List Int)), k ≤ p.length ∧ i = .int .i64 k ∧ Hid (gapF k all (p.drop k) = gapF 0 l p) ∧ bulkR all + bulkR (p.drop k) ≤ bulkR l + bulkR p ∧ Own w.heap.size 37 (Arr RI) (fun k => k < w.heap.size) wr x all ∧ Ext w wr) (fun _ i _ => p.length - (intOf i).toNat)
  case atStart => exact ⟨0, l, Nat.zero_le _, rfl, rfl, Nat.le_refl _, ho1, hb1⟩
  case round =>
    obtain ⟨k, all, hk, rfl, hn, hbk, ho, hx⟩ := hrel
    have hv1 := hv0.ext hx
    have hal : all.length ≤ bulkR all := by unfold bulkR; omega
    have haf : all.flatten.length ≤ bulkR all := by unfold bulkR; omega
    by_cases hlt : k < p.length
    · have hst := Lib.hid (gapF_step (l := all) (i := k) hlt)
      have hcl := bulkR_mem (List.getElem_mem hlt : p[k] ∈ p)
      have hbd : bulkR (p.drop k) = bulkR (p.drop (k + 1)) + (p[k].length + 1) := by
        rw [List.drop_eq_getElem_cons hlt, bulkR_cons]
      have hsz : p[k].length + all.flatten.length ≤ 1000000 := by omega
      have hlen1 : (all.length + 1) * 24 ≤ 140737488355328 := by omega
      cases hz : followsI all p[k]
      · go_wp2_with (first | ((with_reducible refine w_len elR.und ?_ ?_ hv1.len ?_); (· rfl); (· rfl); simp only [Act.put, List.setIfInBounds_toArray, List.set_cons_succ, List.set_cons_zero]) | ((with_reducible refine w_ix elR ?_ ?_ ?_ ?_ ?_ hv1 hlt ?_); (· rfl); (· exact fun _ => rfl); (· exact fun _ => rfl); (· rfl); (· rfl); intro _ x hxx h1x; simp only [Act.put, List.setIfInBounds_toArray, List.set_cons_succ, List.set_cons_zero]) | (go_at_call 53; refine (follows_c _ ho.arr hxx hsz).mono ?_; rintro e w2 ⟨rfl, hx2⟩))
        go_ret
        have e : gapF 0 l p = some k := by rw [← hn.out, hst.out, if_neg (by simp [hz])]
        exact ⟨ret_i (by unfold gapI; rw [e]), hx.trans hx2⟩
      · go_wp2_with (first | ((with_reducible refine w_len elR.und ?_ ?_ hv1.len ?_); (· rfl); (· rfl); simp only [Act.put, List.setIfInBounds_toArray, List.set_cons_succ, List.set_cons_zero]) | ((with_reducible refine w_ix elR ?_ ?_ ?_ ?_ ?_ hv1 hlt ?_); (· rfl); (· exact fun _ => rfl); (· exact fun _ => rfl); (· rfl); (· rfl); intro _ x hxx h1x; simp only [Act.put, List.setIfInBounds_toArray, List.set_cons_succ, List.set_cons_zero]) | (go_at_call 53; refine (follows_c _ ho.arr hxx hsz).mono ?_; rintro e w2 ⟨rfl, hx2⟩; have hv2 := hv1.ext hx2; have ho2 := ho.ext hx2; have hy2 := hx.trans hx2) | ((with_reducible refine w_ix elR ?_ ?_ ?_ ?_ ?_ hv2 hlt ?_); (· rfl); (· exact fun _ => rfl); (· exact fun _ => rfl); (· rfl); (· rfl); intro _ y hyy h1y; simp only [Act.put, List.setIfInBounds_toArray, List.set_cons_succ, List.set_cons_zero]) | ((with_reducible refine w_push elR ?_ ?_ ?_ ?_ ho2 (p[k]) (own_elem ho2 hyy) h1y hy2.size hlen1 (by decide) ?_); (· exact fun _ => rfl); (· rfl); (· rfl); (· rfl); rintro _ v3 w3 ho3 hb3 hg3 _; simp only [Act.put, List.setIfInBounds_toArray, List.set_cons_succ, List.set_cons_zero]))
        go_roundw
        case rel => exact ⟨k + 1, all ++ [p[k]], hlt, by go_num, by show _ = _; rw [← hn.out, hst.out, if_pos hz], by rw [bulkR_append, bulkR_one]; omega, ho3, Below.trans hy2 hb3⟩
        case measure => simp [intOf]; omega
    · obtain rfl : k = p.length := by omega
      have e : gapF 0 l p = none := by rw [← hn.out, List.drop_length, gapF]
      have hgap : Hid (gapI l p = if lastBad p = true then (p.length : Int) else -1) := by show _ = _; unfold gapI; rw [e]
      clear e hn hbk hlt hk
      cases hp : p.getLast? with
      | none =>
        have h0 : p = [] := List.getLast?_eq_none_iff.1 hp
        subst h0
        have hb0 : ((0 : Int) == 0) = true := rfl
        go_wp2_with (first | ((with_reducible refine w_len elR.und ?_ ?_ hv1.len ?_); (· rfl); (· rfl); simp only [Act.put, List.setIfInBounds_toArray, List.set_cons_succ, List.set_cons_zero]))
        go_ret
        exact ⟨ret_i (by rw [hgap.out]; rfl), hx⟩
      | some cl =>
        have hne : 0 < p.length := by
          cases p with
          | nil => simp at hp
          | cons _ _ => simp
        have hk1 : p.length - 1 < p.length := Nat.sub_lt hne Nat.one_pos
        have hlb : lastBad p = decide (0 < (p[p.length - 1]).length) := by
          rw [List.getLast?_eq_getElem?] at hp
          unfold lastBad
          rw [List.getLast?_eq_getElem?, hp, ← (List.getElem?_eq_some_iff.1 hp).2]
        have Hlb := Lib.hid hlb
        have hb0 : ((p.length : Int) == 0) = false := beq_eq_false_iff_ne.2 (by omega)
        have hj : (p.length : Int) - 1 = ((p.length - 1 : Nat) : Int) := by omega
        clear hp hlb
        go_wp2_with (first | ((with_reducible refine w_len elR.und ?_ ?_ hv1.len ?_); (· rfl); (· rfl); simp only [Act.put, List.setIfInBounds_toArray, List.set_cons_succ, List.set_cons_zero]) | ((with_reducible refine w_ixJ elR ?_ ?_ ?_ (((p.length - 1 : Nat)) : Int) rfl ?_ ?_ hv1 hk1 ?_); (· rfl); (· exact fun _ => rfl); (· exact fun _ => rfl); (· rfl); (· rfl); intro _ y hyy h1y; simp only [Act.put, List.setIfInBounds_toArray, List.set_cons_succ, List.set_cons_zero]) | ((with_reducible refine w_len elI.und ?_ ?_ (Arr.len hyy) ?_); (· rfl); (· rfl); simp only [Act.put, List.setIfInBounds_toArray, List.set_cons_succ, List.set_cons_zero]))
        · go_ret
          exact ⟨ret_i (by rw [hgap.out, Hlb.out, if_pos (by rw [decide_eq_true_eq]; omega)]), hx⟩
        · go_ret
          exact ⟨ret_i (by rw [hgap.out, Hlb.out, if_neg (by rw [decide_eq_true_eq]; omega)]), hx⟩

theorem refutes_c {P P' : Nat → Prop} {u v : Value} {l p : List (List Int)} (w : World) (hu : Rows P w u l) (hv : Rows P' w v p) (hsm : bulkR l + bulkR p ≤ 500000) :
    Calls Try.prog 24 #[u, v] w fun e w' => e = .returned (.bool (refutesI l p)) ∧ Ext w w' := by
  unfold refutesI
  go_enter Try.func24, Try.ntmps24
  go_wp2_with (go_at_call 41; refine (gap_c _ hu hv hsm).mono ?_; rintro e w1 ⟨rfl, hx1⟩)
  go_ret
  exact ⟨rfl, hx1⟩

theorem clauseI_ne {vars : Int} : ∀ {q : Option Int} {c : List Int}, clauseI vars q c = 0 ∨ clauseI vars q c = 2 ∨ clauseI vars q c = 14
  | none, [] => by simp [clauseI]
  | some _, [] => by simp [clauseI]
  | none, x :: c => by
    simp only [clauseI]
    split
    · exact clauseI_ne
    · simp
  | some p, x :: c => by
    simp only [clauseI]
    split
    · split
      · simp
      · exact clauseI_ne
    · simp
theorem badI_some {vars : Int} : ∀ {p : List (List Int)} {k i : Nat} {e : Int}, badI vars k p = some (i, e) → e = 2 ∨ e = 14
  | [], k, i, e, h => by simp [badI] at h
  | c :: p, k, i, e, h => by
    simp only [badI] at h
    split at h
    · rename_i hz
      simp only [Option.some.injEq, Prod.mk.injEq] at h
      rw [← h.2]
      rcases clauseI_ne (vars := vars) (q := none) (c := c) with h' | h'
      · exact absurd h' hz
      · exact h'
    · exact badI_some h

set_option maxHeartbeats 2000000 in
/-- Verify of the reference, where clauses and a proof are few -/
theorem rverify_c {P P' : Nat → Prop} {u v : Value} {l p : List (List Int)} (vars : Int) (w : World) (hu : Rows P w u l) (hv : Rows P' w v p)
    (hsm : checkI vars l = 0 → p.length ≤ 32768 → bulkR l + bulkR p ≤ 500000) :
    Calls Try.prog 14 #[.agg #[.int .i64 vars, u], v] w fun e w' => e = .returned (.tuple #[.int .i64 (verifyI vars l p).1, .int .i64 (verifyI vars l p).2]) ∧ Ext w w' := by
  have hle := hv.le
  by_cases hc : checkI vars l = 0
  · have hvars := checkI_zero hc
    by_cases hp : p.length ≤ 32768
    · have hsm' := hsm hc hp
      have hver : Hid (verifyI vars l p = match badI vars 0 p with | some r => (r.1, r.2) | none => if 0 ≤ gapI l p then (gapI l p, 18) else (0, 0)) := by
        show _ = _; unfold verifyI; rw [if_neg (by simp [hc]), if_neg (by omega)]; rfl
      clear hsm
      go_enter Try.func14, Try.ntmps14
      go_wp2_with (first | (go_at_call 21; refine (check_c _ _ (hu.ext (Ext.of_alloc _ _))).mono ?_; rintro e w1 ⟨rfl, hx1⟩) | ((with_reducible refine w_len elR.und ?_ ?_ hv.len ?_); (· rfl); (· rfl); simp only [Act.put, List.setIfInBounds_toArray, List.set_cons_succ, List.set_cons_zero]))
      clear hc
      have hb0 : w1.cell? ⟨w.heap.size, 0, none⟩ = some (.int .i64 vars) := hx1.cell (by simp)
      have hb1 : w1.cell? ⟨w.heap.size, 1, none⟩ = some u := hx1.cell (by simp)
      have hx := (Ext.of_alloc w _).trans hx1
      have hv1 := hv.ext hx
      clear hx1
      go_loopw [7] (fun i wr => ∃ k m : Nat, k ≤ p.length ∧ i = .int .i64 k ∧ Hid (badI vars k (p.drop k) = badI vars 0 p) ∧ wr = w1.drewN m) (fun i _ => p.length - (intOf i).toNat)
      case atStart => exact ⟨0, 0, Nat.zero_le _, rfl, rfl, rfl⟩
      case round =>
        obtain ⟨k, m, hk, rfl, hn, rfl⟩ := hrel
        have hv' := hv1.ext (Ext.of_drewN w1 m)
        by_cases hlt : k < p.length
        · have hst := Lib.hid (badI_step (vars := vars) (i := k) hlt)
          go_wp2_with ((with_reducible refine w_len elR.und ?_ ?_ hv'.len ?_); (· rfl); (· rfl); simp only [Act.put, List.setIfInBounds_toArray, List.set_cons_succ, List.set_cons_zero])
          (refine wp_region_quiet_lit (by kernel_rfl) (by kernel_rfl) ?_; (repeat (first | go_big_quiet_skip |  ((with_reducible refine q_ix elR ?_ ?_ ?_ ?_ hv' hlt ext_of_class ?_ ?_); (· rfl); (· exact fun _ => rfl); (· rfl); (· rfl); (· exact fun _ => rfl); intro _ c hcc h1c; simp only [Act.put, List.setIfInBounds_toArray, List.set_cons_succ, List.set_cons_zero]) | ((with_reducible refine q_call Try.call22 ?_ ?_ (fun w hw => class_call hw (clause_c vars _ (Good.ext (R := Ints) hcc (ext_of_class _ hw)) (by omega) (by omega))) ?_); (· rfl); (· rfl); simp only [Act.put, List.setIfInBounds_toArray, List.set_cons_succ, List.set_cons_zero])  | go_big_quiet_step (fail))); refine wpQuiet_nil ?_; rintro _ ⟨nq, rfl⟩)
          by_cases hz : clauseI vars none p[k] = 0
          · go_wp2
            go_roundw
            case rel => exact ⟨k + 1, m + nq, hlt, by go_num, by rw [← hn.out, hst.out, if_neg (by simp [hz])]; rfl, rfl⟩
            case measure => simp [intOf]; omega
          · go_wp2
            go_ret2
            have e : badI vars 0 p = some (k, clauseI vars none p[k]) := by rw [← hn.out, hst.out, if_pos hz]
            exact ⟨ret_ii (by rw [hver.out, e]) (by rw [hver.out, e]), hx.drewN _⟩
        · obtain rfl : k = p.length := by omega
          have hv2 := hv1.ext (Ext.of_drewN w1 m)
          have hu2 := (hu.ext hx).ext (Ext.of_drewN w1 m)
          have e : badI vars 0 p = none := by rw [← hn.out, List.drop_length, badI]
          have He := Lib.hid e
          clear e
          go_wp2_with (first | ((with_reducible refine w_len elR.und ?_ ?_ hv'.len ?_); (· rfl); (· rfl); simp only [Act.put, List.setIfInBounds_toArray, List.set_cons_succ, List.set_cons_zero]) | (go_at_call 41; refine (gap_c _ hu2 hv2 hsm').mono ?_; rintro e w2 ⟨rfl, hx2⟩))
          · go_ret2
            have e2 : verifyI vars l p = (gapI l p, 18) := by rw [hver.out, He.out]; exact if_pos (by assumption)
            exact ⟨ret_ii (by rw [e2]) (by rw [e2]), (hx.drewN _).trans hx2⟩
          · go_ret2
            have e2 : verifyI vars l p = (0, 0) := by rw [hver.out, He.out]; exact if_neg (by omega)
            exact ⟨ret_ii (by rw [e2]) (by rw [e2]), (hx.drewN _).trans hx2⟩
    · have hver : Hid (verifyI vars l p = (0, 5)) := by show _ = _; unfold verifyI; rw [if_neg (by simp [hc]), if_pos (by omega)]
      go_enter Try.func14, Try.ntmps14
      go_wp2_with (first | (go_at_call 21; refine (check_c _ _ (hu.ext (Ext.of_alloc _ _))).mono ?_; rintro e w1 ⟨rfl, hx1⟩) | ((with_reducible refine w_len elR.und ?_ ?_ hv.len ?_); (· rfl); (· rfl); simp only [Act.put, List.setIfInBounds_toArray, List.set_cons_succ, List.set_cons_zero]))
      go_ret2
      exact ⟨ret_ii (by rw [hver.out]) (by rw [hver.out]), (Ext.of_alloc w _).trans hx1⟩
  · have hver : Hid (verifyI vars l p = (0, checkI vars l)) := by show _ = _; unfold verifyI; rw [if_pos hc]
    go_enter Try.func14, Try.ntmps14
    go_wp2_with (first | (go_at_call 21; refine (check_c _ _ (hu.ext (Ext.of_alloc _ _))).mono ?_; rintro e w1 ⟨rfl, hx1⟩) | ((with_reducible refine w_len elR.und ?_ ?_ hv.len ?_); (· rfl); (· rfl); simp only [Act.put, List.setIfInBounds_toArray, List.set_cons_succ, List.set_cons_zero]))
    go_ret2
    exact ⟨ret_ii (by rw [hver.out]) (by rw [hver.out]), (Ext.of_alloc w _).trans hx1⟩

set_option maxHeartbeats 1000000 in
theorem rimplied_c {P P' : Nat → Prop} {u v : Value} {l : List (List Int)} {c : List Int} (vars : Int) (w : World) (hu : Rows P w u l) (hv : Ints P' w v c)
    (hsm : checkI vars l = 0 → clauseI vars none c = 0 → bulkR l + c.length ≤ 500000) :
    Calls Try.prog 30 #[.agg #[.int .i64 vars, u], v] w fun e w' => e = .returned (.tuple #[.bool (impliedI vars l c).1, .int .i64 (impliedI vars l c).2]) ∧ Ext w w' := by
  by_cases hc : checkI vars l = 0
  · have hvars := checkI_zero hc
    by_cases hz : clauseI vars none c = 0
    · have hsm' := hsm hc hz
      have hs2 : c.length + l.flatten.length ≤ 1000000 := by unfold bulkR at hsm'; omega
      have hver : Hid (impliedI vars l c = (followsI l c, 0)) := by show _ = _; unfold impliedI; rw [if_neg (by simp [hc]), if_neg (by simp [hz])]
      clear hsm
      go_enter Try.func30, Try.ntmps30
      go_wp2_with (first | (go_at_call 21; refine (check_c _ _ (hu.ext (Ext.of_alloc _ _))).mono ?_; rintro e w1 ⟨rfl, hx1⟩; have hb0 : w1.cell? ⟨w.heap.size, 0, none⟩ = some (.int .i64 vars) := hx1.cell (by simp); have hb1 : w1.cell? ⟨w.heap.size, 1, none⟩ = some u := hx1.cell (by simp); have hx := (Ext.of_alloc w _).trans hx1; have hu1 := hu.ext hx; have hv1 := hv.ext hx) | (go_at_call 22; refine (clause_c vars _ hv1 (by omega) (by omega)).mono ?_; rintro e w2 ⟨rfl, n, rfl⟩) | (go_at_call 53; refine (follows_c _ (hu1.ext (Ext.of_drewN _ _)) (hv1.ext (Ext.of_drewN _ _)) hs2).mono ?_; rintro e w3 ⟨rfl, hx3⟩))
      go_ret2
      exact ⟨ret_bi (by rw [hver.out]) (by rw [hver.out]), (hx.drewN _).trans hx3⟩
    · have hver : Hid (impliedI vars l c = (false, clauseI vars none c)) := by show _ = _; unfold impliedI; rw [if_neg (by simp [hc]), if_pos hz]
      go_enter Try.func30, Try.ntmps30
      go_wp2_with (first | (go_at_call 21; refine (check_c _ _ (hu.ext (Ext.of_alloc _ _))).mono ?_; rintro e w1 ⟨rfl, hx1⟩; have hb0 : w1.cell? ⟨w.heap.size, 0, none⟩ = some (.int .i64 vars) := hx1.cell (by simp); have hb1 : w1.cell? ⟨w.heap.size, 1, none⟩ = some u := hx1.cell (by simp); have hx := (Ext.of_alloc w _).trans hx1; have hv1 := hv.ext hx) | (go_at_call 22; refine (clause_c vars _ hv1 (by omega) (by omega)).mono ?_; rintro e w2 ⟨rfl, n, rfl⟩))
      go_ret2
      exact ⟨ret_bi (by rw [hver.out]) (by rw [hver.out]), hx.drewN _⟩
  · have hver : Hid (impliedI vars l c = (false, checkI vars l)) := by show _ = _; unfold impliedI; rw [if_pos hc]
    go_enter Try.func30, Try.ntmps30
    go_wp2_with (first | (go_at_call 21; refine (check_c _ _ (hu.ext (Ext.of_alloc _ _))).mono ?_; rintro e w1 ⟨rfl, hx1⟩))
    go_ret2
    exact ⟨ret_bi (by rw [hver.out]) (by rw [hver.out]), (Ext.of_alloc w _).trans hx1⟩

theorem rempty_c {P : Nat → Prop} {u : Value} {l : List (List Int)} (vars : Int) (w : World) (hu : Rows P w u l) (hsm : checkI vars l = 0 → bulkR l ≤ 500000) :
    Calls Try.prog 32 #[.agg #[.int .i64 vars, u]] w fun e w' => e = .returned (.tuple #[.bool (emptyI vars l).1, .int .i64 (emptyI vars l).2]) ∧ Ext w w' := by
  by_cases hc : checkI vars l = 0
  · have hsm' := hsm hc
    have hs2 : ([] : List Int).length + l.flatten.length ≤ 1000000 := by unfold bulkR at hsm'; simp only [List.length_nil]; omega
    have hver : Hid (emptyI vars l = (followsI l [], 0)) := by show _ = _; unfold emptyI; rw [if_neg (by simp [hc])]
    clear hsm
    go_enter Try.func32, Try.ntmps32
    go_wp2_with (first | (go_at_call 21; refine (check_c _ _ (hu.ext (Ext.of_alloc _ _))).mono ?_; rintro e w1 ⟨rfl, hx1⟩; have hb1 : w1.cell? ⟨w.heap.size, 1, none⟩ = some u := hx1.cell (by simp); have hx := (Ext.of_alloc w _).trans hx1; have hu1 := hu.ext hx) | (go_at_call 53; refine (follows_c (P' := noB) _ hu1 Arr.nil' hs2).mono ?_; rintro e w3 ⟨rfl, hx3⟩))
    go_ret2
    exact ⟨ret_bi (by rw [hver.out]) (by rw [hver.out]), hx.trans hx3⟩
  · have hver : Hid (emptyI vars l = (false, checkI vars l)) := by show _ = _; unfold emptyI; rw [if_pos hc]
    go_enter Try.func32, Try.ntmps32
    go_wp2_with (first | (go_at_call 21; refine (check_c _ _ (hu.ext (Ext.of_alloc _ _))).mono ?_; rintro e w1 ⟨rfl, hx1⟩))
    go_ret2
    exact ⟨ret_bi (by rw [hver.out]) (by rw [hver.out]), (Ext.of_alloc w _).trans hx1⟩

end Go.Proofs.Ytjifihfkoflbiaa
