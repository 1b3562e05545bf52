/- Part 27: walks by contracts, and plain laws. -/
import Derived.Test.YtpiidgcljlalmaaVa21
set_option linter.unusedVariables false
set_option linter.unusedSimpArgs false
set_option linter.unusedSectionVars false
namespace Go.Proofs.Ytpiidgcljlalmaa
open Go.RowKit
section
variable {P : Program} {ops : Array Oper} {hp : List HObj} {o : Oper} {fr : List Dat} {d : Dat} {Q : Post} {rest : List Oper}
variable {dst : Option Tmp} {ty : TypeId} {ps : String} {af : Array Edge} {g : Option (Nat × Bool)} {e e' t T : TypeId} {bytes b cap N : Nat} {z : Value} {ag : Bool} {α : Type} {R : Rel α} {_gR : Good R} {xs : List α} {v : Value}
abbrev hQ (b N cap : Nat) (e : TypeId) (R : Rel α) [Good R] (xs : List α) : HObj := hRow (.slice (some ⟨b, 0, none⟩) N cap) e R xs
theorem WC.openQ {c : Code} {v : Value} (hne : 0 < xs.length) (h : ∀ b cap, v = .slice (some ⟨b, 0, none⟩) xs.length cap → xs.length ≤ cap → cap ≤ maxLen → WC P Q c fr (hRow v e R xs :: hp)) : WC P Q c fr (hRow v e R xs :: hp) := WC.of fun P0 B w0 w a hh hf => by
  obtain ⟨us, h1, ⟨h2, h3⟩, h4⟩ := hh.ok (hRow v e R xs) (by simp)
  rcases h3 with ⟨_, hz⟩ | ⟨g, cap, cur, hv, hB, hg, hc1, hc2, hc3, hc4⟩
  · omega
  · exact (h g cap hv hc1 hc2).on hh hf
theorem SY.ixQ {x i : Operand} {n m off k : Nat} {j : Int} (E : ElT P t e 1 z bytes ag) (hx : OpD fr x (dX (.slice (some ⟨b, off, none⟩) n m))) (hi : OpD fr i (dI j)) (hj : j = (k : Int)) (hk : k < n) :
    SY P ops hp { dst := dst, op := .indexAddr t x i, type := ty, pos := ps, after := af, guard := g } fr (dX (.pointer (some ⟨b, off + k, none⟩))) := SY.val fun {I w a} ho => by
  have h1 : a.eval x = _ := hx.get (by simp [Op.operands]) ho
  have h2 : a.eval i = _ := hi.get (by simp [Op.operands]) ho
  refine ⟨.pointer (some ⟨b, off + k * 1, none⟩), ?_, by rw [Nat.mul_one]; rfl⟩
  unfold execOp
  simp only [h1, h2, hj, Sem.run_bind, run_indexAt (w := w) E b off n m k .i64 hk, Result.andThen_ok, Sem.run_pure]
theorem SY.loadQ {x : Operand} {j k : Nat} (T' : TyI P T 1 false) (hx : OpD fr x (dX (.pointer (some ⟨b, j, none⟩)))) (hm : hQ b N cap e' R xs ∈ hp) (hj : j = k) (hk : k < xs.length) :
    SY P ops hp { dst := dst, op := .load T x, type := ty, pos := ps, after := af, guard := g } fr (dS R xs[k]) := by
  subst hj
  exact SY.loadR T' hx hm hk
theorem WL.storeQ {p : Tmp} {x : Operand} {j k : Nat} {y : α} (T' : TyI P T 1 false) (hp0 : OpD fr (.tmp p) (dX (.pointer (some ⟨b, j, none⟩)))) (hx : OpD fr x (dS R y)) (hs : (dS R y).Shape 1 false) (hj : j = k) (hk : k < xs.length)
    (h : WL P ops Q rest (setD fr dst dA) (hQ b N cap e R (xs.set k y) :: hp)) : WL P ops Q ({ dst := dst, op := .store T (.tmp p) x, type := ty, pos := ps, after := af, guard := none } :: rest) fr (hQ b N cap e R xs :: hp) := by
  subst hj
  exact WL.storeR T' hp0 hx hs hk h
theorem SY.fromQ {x y : Operand} {off n m l : Nat} {j : Int} (E : ElT P t e 1 z bytes ag) (hx : OpD fr x (dX (.slice (some ⟨b, off, none⟩) n m))) (hy : OpD fr y (dI j)) (hj : j = (l : Int)) (hl : l < n) (hm : n ≤ m) :
    SY P ops hp { dst := dst, op := .slice t x (some y) none none, type := ty, pos := ps, after := af, guard := g } fr (dX (.slice (some ⟨b, off + l, none⟩) (n - l) (m - l))) := SY.val fun {I w a} ho => by
  have h1 : a.eval x = _ := hx.get (by simp [Op.operands]) ho
  have h2 : a.eval y = _ := hy.get (by simp [Op.operands]) ho
  refine ⟨_, ?_, rfl⟩
  have hr := run_slice (w := w) (ad := some ⟨b, off, none⟩) (len := n) (cap := m) (lo := some (.int .i64 (l : Int))) (hi := none) (l := l) (h := n) E (.inr ⟨_, rfl⟩) (.inl ⟨rfl, rfl⟩) (by omega) hm
  rw [if_neg (by omega)] at hr
  unfold execOp
  simp only [h1, h2, hj, Option.map_none, Option.map_some, Sem.run_bind, hr, Result.andThen_ok, Sem.run_pure]
  simp [Addr.add_lit]
theorem SY.uptoQ {x y : Operand} {off n m l : Nat} {j : Int} (E : ElT P t e 1 z bytes ag) (hx : OpD fr x (dX (.slice (some ⟨b, off, none⟩) n m))) (hy : OpD fr y (dI j)) (hj : j = (l : Int)) (hl : l ≤ n) (hm : n ≤ m) (h0 : 0 < m) :
    SY P ops hp { dst := dst, op := .slice t x none (some y) none, type := ty, pos := ps, after := af, guard := g } fr (dX (.slice (some ⟨b, off, none⟩) l m)) := SY.val fun {I w a} ho => by
  have h1 : a.eval x = _ := hx.get (by simp [Op.operands]) ho
  have h2 : a.eval y = _ := hy.get (by simp [Op.operands]) ho
  refine ⟨_, ?_, rfl⟩
  have hr := run_slice (w := w) (ad := some ⟨b, off, none⟩) (len := n) (cap := m) (lo := none) (hi := some (.int .i64 (l : Int))) (l := 0) (h := l) E (.inl ⟨rfl, rfl⟩) (.inr ⟨_, rfl⟩) (by omega) (by omega)
  rw [if_neg (by omega)] at hr
  unfold execOp
  simp only [h1, h2, hj, Option.map_none, Option.map_some, Sem.run_bind, hr, Result.andThen_ok, Sem.run_pure]
  simp [Addr.add_lit]
theorem WL.cutQ {k : Nat} (hk : k ≤ xs.length) (h : WL P ops Q rest fr (hQ b k cap e R (xs.take k) :: hp)) : WL P ops Q rest fr (hQ b N cap e R xs :: hp) := WL.of fun P0 B w0 w a hh hf => by
  obtain ⟨us, h1, ⟨h2, h3⟩, h4⟩ := (hQ b N cap e R xs).bound (hh.ok (hQ b N cap e R xs) (by simp))
  have hgr : w.grownBy w (hQ b N cap e R xs).blk := ⟨rfl, rfl, rfl, Nat.le_refl _, fun _ _ _ => rfl⟩
  have hok : (hQ b k cap e R (xs.take k)).ok (fun j => Imm P0 B (hQ b N cap e R xs :: hp) j ∧ j < w.heap.size) w := by
    rcases h3 with ⟨hc, _⟩ | ⟨g, cap', cur, hv, hB, hg, hc1, hc2, hc3, hc4⟩
    · cases hc
    · cases hv
      refine ⟨us.take k, by simp [h1], ⟨by simp; omega, .inr ⟨_, _, cur, ?_, hB, hg, by simp; omega, hc2, hc3, ?_⟩⟩, fun i a1 a2 => ?_⟩
      · simp [Nat.min_eq_left hk]
      · rw [List.length_take, Nat.min_eq_left hk, Nat.mul_one]
        rw [Nat.mul_one] at hc4
        rw [← hc4, List.take_take, Nat.min_eq_left hk]
      · rw [List.getElem_take, List.getElem_take]
        rw [List.length_take] at a1 a2
        exact h4 i (by omega) (by omega)
  exact h.on (hh.write hgr (.inl rfl) hok) (hf.mono fun _ _ hd => Hp.written (o' := hQ b k cap e R (xs.take k)) hgr (.inl rfl) hd)
theorem WL.uptoC1 {l : Nat} {x y : Operand} {j : Int} (E : ElT P t e 1 z bytes ag) (hx : OpD fr x (dX (.slice (some ⟨b, 0, none⟩) N cap))) (hy : OpD fr y (dI j)) (hj : j = (l : Int)) (hl : l ≤ N) (hm : N ≤ cap) (h0 : 0 < cap) (hk : l ≤ xs.length)
    (h : WL P ops Q rest (setD fr dst (dX (.slice (some ⟨b, 0, none⟩) l cap))) (hQ b l cap e R (xs.take l) :: hp)) : WL P ops Q ({ dst := dst, op := .slice t x none (some y) none, type := ty, pos := ps, after := af, guard := none } :: rest) fr (hQ b N cap e R xs :: hp) :=
  WL.op rfl (SY.uptoQ E hx hy hj hl hm h0) (WL.cutQ hk h)
theorem WL.clearQ {x : Operand} {off n m k : Nat} {x0 : α} (hu : P.underlying t = some (.slice e)) (hz : ∀ w, (zeroValue e).run P w = .ok z w) (hz1 : z.oneCell' = true) (hz0 : ∀ I w, R I w z x0) (hx : OpD fr x (dX (.slice (some ⟨b, off, none⟩) n m))) (hj : off = k) (hn : 0 < n) (hk : k + n = xs.length)
    (h : WL P ops Q rest (setD fr dst dA) (hQ b N cap e R (xs.take k ++ List.replicate n x0) :: hp)) : WL P ops Q ({ dst := dst, op := .call { callee := .builtin .clear, args := #[x], argTypes := #[t] }, type := ty, pos := ps, after := af, guard := none } :: rest) fr (hQ b N cap e R xs :: hp) := by
  refine WL.of fun P0 B w0 w a hh hf => ?_
  subst hj
  have hok := (hQ b N cap e R xs).bound (hh.ok (hQ b N cap e R xs) (by simp))
  obtain ⟨us, h1, ⟨h2, h3⟩, h4⟩ := hok
  rcases h3 with ⟨hc, _⟩ | ⟨g, cap', cur, hv, hB, hg, hc1, hc2, hc3, hc4⟩
  · cases hc
  cases hv
  rw [Nat.mul_one] at hc3 hc4
  have hval : a.eval x = _ := hx.ev hf
  have hcl : off + n ≤ cur.toList.length := by simp; omega
  have hzc : (Builtin.zeroCells #[z] n).toList = List.replicate n z := by
    simp only [Builtin.zeroCells]
    apply List.ext_getElem
    · simp
    · intro i h1 h2
      simp [Nat.mod_one]
  have hcell : ∀ j < n, w.cell? ⟨b, off + j, none⟩ ≠ none ∧ w.frozen? ⟨b, off + j, none⟩ = false := fun j hj => by
    have : off + j < cur.size := by omega
    exact ⟨by simp [World.cell?, hg, this], by simp [World.frozen?, hg]⟩
  have hst := run_storeCells_cells (P := P) b off (List.replicate n z) 0 w (fun j hj => by
      rw [List.length_replicate] at hj
      rw [Nat.add_zero]
      exact Option.isSome_iff_ne_none.2 (hcell j hj).1) (fun j hj => by
      rw [List.length_replicate] at hj
      rw [Nat.add_zero]
      exact (hcell j hj).2) (fun c hc => by rw [(List.mem_replicate.1 hc).2]; exact hz1)
  have hrun : (execOp a.eval { dst := dst, op := .call { callee := .builtin .clear, args := #[x], argTypes := #[t] }, type := ty, pos := ps, after := af, guard := none }).run P w = .ok (.value (.tuple #[])) (w.setCells b off (List.replicate n z)) := by
    obtain ⟨m', rfl⟩ : ∃ m, n = m + 1 := ⟨n - 1, by omega⟩
    unfold execOp
    simp [resolve, invoke, builtin, hval, Builtin.clear_, run_underlying hu, hz, cells_one hz1, hzc, hst]
  have hsplit : cur = (cur.toList.take off ++ (cur.toList.drop off).take n ++ cur.toList.drop (off + n)).toArray := by
    apply Array.ext'
    simp [← List.drop_drop]
  have hg2 : (w.setCells b off (List.replicate n z)).heap[b]? = some (.cells (cur.toList.take off ++ List.replicate n z ++ cur.toList.drop (off + n)).toArray e (0, 0)) := by
    have := heap_setCells_mid (g := b) (e := e) (fz := (0, 0)) (List.replicate n z) ((cur.toList.drop off).take n) (cur.toList.take off) (cur.toList.drop (off + n)) w (by simp; omega) (by rw [← hsplit]; exact hg)
    rwa [List.length_take, Nat.min_eq_left (by omega)] at this
  have hgr : w.grownBy (w.setCells b off (List.replicate n z)) (some b) := row_grown
  have hok' : (hQ b xs.length cap e R (xs.take off ++ List.replicate n x0)).ok (fun j => Imm P0 B (hQ b xs.length cap e R xs :: hp) j ∧ j < w.heap.size) (w.setCells b off (List.replicate n z)) := by
    have hlen : (xs.take off ++ List.replicate n x0).length = xs.length := by simp; omega
    have hlu : (us.take off ++ List.replicate n z).length = xs.length := by simp; omega
    refine ⟨us.take off ++ List.replicate n z, by rw [hlen, hlu], ⟨by rw [hlu, hlen, Nat.mul_one], .inr ⟨_, _, _, by rw [hlen], hB, hg2, by rw [hlen]; exact hc1, hc2, ?_, ?_⟩⟩, fun i a1 a2 => ?_⟩
    · simp; omega
    · rw [hlen, Nat.mul_one]
      rw [List.take_append_of_le_length (by simp; omega), List.take_of_length_le (by simp; omega), ← hc4, List.take_take, Nat.min_eq_left (by omega)]
    · by_cases hi : i < off
      · rw [List.getElem_append_left (by simp; omega), List.getElem_append_left (by simp; omega), List.getElem_take, List.getElem_take]
        have := h4 i (by omega) (by omega)
        exact ⟨this.1, Good.grown this.2 hgr fun r hr hc => hc.2 (by cases hr; rfl)⟩
      · rw [List.getElem_append_right (by simp; omega), List.getElem_append_right (by simp; omega), List.getElem_replicate, List.getElem_replicate]
        exact ⟨hz1, hz0 _ _⟩
  refine wpList_plain rfl fun K hK => ?_
  unfold Oper.wp
  rw [hrun]
  exact hK _ _ (h.on (hh.write hgr (.inl rfl) hok') (Fr.put (hf.mono fun _ _ hd => Hp.written (o := hQ b xs.length cap e R xs) (o' := hQ b xs.length cap e R (xs.take off ++ List.replicate n x0)) hgr (.inl rfl) hd) (d := dA) trivial))
end
end Go.Proofs.Ytpiidgcljlalmaa
namespace Go.Proofs.Ytpiidgcljlalmaa
open Go.RowKit

theorem elR : ElT Try.prog 22 25 1 (.slice none 0 0) 24 false := ⟨Try.underlying22, by kernel_rfl, Try.isAgg25, rfl⟩

theorem var_c (x : Int) (w : World) : Calls Try.prog 61 #[.int .i64 x] w fun e w' => e = .returned (.int .i64 (varI x)) ∧ w' = w := by
  unfold varI
  go_enter Try.func61, Try.ntmps61
  go_wp2
  all_goals (go_ret; exact ⟨rfl, rfl⟩)

theorem good_c (vars l : Int) (w : World) (hv : -9223372036854775807 ≤ vars) (hv2 : vars ≤ 9223372036854775807) : Calls Try.prog 60 #[.int .i64 vars, .int .i64 l] w fun e w' => e = .returned (.bool (goodI vars l)) ∧ w' = w := by
  have hg : goodI vars l = (l != 0 && (decide (-vars ≤ l) && decide (l ≤ vars))) := by
    unfold goodI; by_cases h : l = 0 <;> simp [h]
  generalize goodI vars l = g at *
  have Hg := Lib.hid hg
  clear hg
  go_enter Try.func60, Try.ntmps60
  go_wp2
  all_goals (go_ret; refine ⟨ret_b ?_, rfl⟩; rw [Hg.out]; simp_all)
  omega

set_option maxHeartbeats 400000 in
theorem clause_c {P : Nat → Prop} {v : Value} {zs : List Int} (vars : Int) (w : World) (hv : Ints P w v zs) (hv1 : -9223372036854775807 ≤ vars) (hv2 : vars ≤ 9223372036854775807) :
    Calls Try.prog 27 #[.int .i64 vars, v] w fun e w' => e = .returned (.int .i64 (clauseI vars none zs)) ∧ ∃ n, w' = w.drewN n := by
  have hle := hv.le
  go_enter Try.func27, Try.ntmps27
  go_wp2
  go_loopw [5] (fun i wr => ∃ k m : Nat, k ≤ zs.length ∧ i = .int .i64 k ∧ Hid (clauseI vars (prevI zs k) (zs.drop k) = clauseI vars none zs) ∧ wr = w.drewN m) (fun i _ => zs.length - (intOf i).toNat)
  case atStart => exact ⟨0, 0, Nat.zero_le _, rfl, rfl, rfl⟩
  case round =>
    obtain ⟨k, m, hk, rfl, hn, rfl⟩ := hrel
    have hv' := hv.ext (Ext.of_drewN w m)
    by_cases hlt : k < zs.length
    · by_cases hx : goodI vars zs[k] = true
      · go_wp2_with (first | ((with_reducible refine w_len elI.und ?_ ?_ hv'.len ?_); (· rfl); (· rfl); simp only [Act.put, List.setIfInBounds_toArray, List.set_cons_succ, List.set_cons_zero]) | ((with_reducible refine w_ixI elI ?_ ?_ ?_ ?_ ?_ hv' hlt ?_); (· rfl); (· exact fun _ => rfl); (· exact fun _ => rfl); (· rfl); (· rfl); intro _; simp only [Act.put, List.setIfInBounds_toArray, List.set_cons_succ, List.set_cons_zero]) | (go_at_call 60; refine (good_c _ _ _ hv1 hv2).mono ?_; rintro e w1 ⟨rfl, rfl⟩))
        cases k with
        | zero =>
          (refine wp_region_quiet_lit (by kernel_rfl) (by kernel_rfl) ?_; (repeat (first | go_big_quiet_skip |  ((with_reducible refine q_ixI elI ?_ ?_ ?_ ?_ hv' hlt ext_of_class ?_ ?_); (· rfl); (· exact fun _ => rfl); (· rfl); (· rfl); (· exact fun _ => rfl); intro _; simp only [Act.put, List.setIfInBounds_toArray, List.set_cons_succ, List.set_cons_zero])  | go_big_quiet_step (fail))); refine wpQuiet_nil ?_; rintro _ ⟨nq, rfl⟩)
          go_wp2
          go_roundw
          case rel => exact ⟨1, m + nq, hlt, rfl, by rw [← hn.out, clauseI_zero hlt hx]; rfl, rfl⟩
          case measure => simp [intOf]; omega
        | succ k =>
          have hk1 : k < zs.length := by omega
          have hs := Lib.hid (clauseI_succ hlt hx)
          (refine wp_region_quiet_lit (by kernel_rfl) (by kernel_rfl) ?_; (repeat (first | go_big_quiet_skip |  ((with_reducible refine q_ixI elI ?_ ?_ ?_ ?_ hv' hlt ext_of_class ?_ ?_); (· rfl); (· exact fun _ => rfl); (· rfl); (· rfl); (· exact fun _ => rfl); intro _; simp only [Act.put, List.setIfInBounds_toArray, List.set_cons_succ, List.set_cons_zero]) | ((with_reducible refine q_ixI elI ?_ ?_ ?_ ?_ hv' hk1 ext_of_class ?_ ?_); (· rfl); (· exact fun _ => rfl); (· rfl); (· rfl); (· exact fun _ => rfl); intro _; simp only [Act.put, List.setIfInBounds_toArray, List.set_cons_succ, List.set_cons_zero]) | ((with_reducible refine q_call Try.call61 ?_ ?_ (fun w hw => class_same hw (var_c zs[k+1] _)) ?_); (· rfl); (· rfl); simp only [Act.put, List.setIfInBounds_toArray, List.set_cons_succ, List.set_cons_zero]) | ((with_reducible refine q_call Try.call61 ?_ ?_ (fun w hw => class_same hw (var_c zs[k] _)) ?_); (· rfl); (· rfl); simp only [Act.put, List.setIfInBounds_toArray, List.set_cons_succ, List.set_cons_zero])  | go_big_quiet_step (fail))); refine wpQuiet_nil ?_; rintro _ ⟨nq, rfl⟩)
          by_cases hp : varI zs[k + 1] ≤ varI zs[k]
          · go_wp2
            go_ret
            exact ⟨ret_i (by rw [← hn.out, hs.out, if_pos hp]), m + nq, World.drewN_drewN ..⟩
          · go_wp2
            go_roundw
            case rel => exact ⟨k + 1 + 1, m + nq, hlt, by go_num, by rw [← hn.out, hs.out, if_neg hp]; rfl, rfl⟩
            case measure => simp [intOf]; omega
      · have hb := Lib.hid (clauseI_bad hlt hx)
        have hx' : goodI vars zs[k] = false := by simpa using hx
        clear hx
        go_wp2_with (first | ((with_reducible refine w_len elI.und ?_ ?_ hv'.len ?_); (· rfl); (· rfl); simp only [Act.put, List.setIfInBounds_toArray, List.set_cons_succ, List.set_cons_zero]) | ((with_reducible refine w_ixI elI ?_ ?_ ?_ ?_ ?_ hv' hlt ?_); (· rfl); (· exact fun _ => rfl); (· exact fun _ => rfl); (· rfl); (· rfl); intro _; simp only [Act.put, List.setIfInBounds_toArray, List.set_cons_succ, List.set_cons_zero]) | (go_at_call 60; refine (good_c _ _ _ hv1 hv2).mono ?_; rintro e w1 ⟨rfl, rfl⟩))
        go_ret
        exact ⟨ret_i (by rw [← hn.out, hb.out]), m, rfl⟩
    · obtain rfl : k = zs.length := by omega
      go_wp2_with ((with_reducible refine w_len elI.und ?_ ?_ hv'.len ?_); (· rfl); (· rfl); simp only [Act.put, List.setIfInBounds_toArray, List.set_cons_succ, List.set_cons_zero])
      go_ret
      exact ⟨ret_i (by rw [← hn.out, List.drop_length, clauseI]), m, rfl⟩

def RC : Rel (Int × List (List Int)) := fun P w v x => ∃ u, v = .agg #[.int .i64 x.1, u] ∧ Rows P w u x.2
instance : Good RC := ⟨fun ⟨u, h, k⟩ hP => ⟨u, h, Good.weak k hP⟩, fun ⟨u, h, k⟩ hm => ⟨u, h, Good.move k hm⟩, fun ⟨u, h, k⟩ => ⟨u, h, Good.bound k⟩⟩

theorem sizes_c {P : Nat → Prop} {u : Value} {l : List (List Int)} (vars : Int) (w : World) (hv : Rows P w u l) :
    Calls Try.prog 65 #[.agg #[.int .i64 vars, u]] w fun e w' => e = .returned (.int .i64 (sizesI vars l.length)) ∧ Ext w w' := by
  have hle := hv.le
  go_enter Try.func65, Try.ntmps65
  go_wp2_with ((with_reducible refine w_len elR.und ?_ ?_ hv.len ?_); (· rfl); (· rfl); simp only [Act.put, List.setIfInBounds_toArray, List.set_cons_succ, List.set_cons_zero])
  all_goals go_ret
  all_goals exact ⟨ret_i (by unfold sizesI; (repeat' split) <;> first | rfl | omega), Ext.of_alloc _ _⟩

theorem clausesI_step {vars : Int} {l : List (List Int)} {k : Nat} (h : k < l.length) : clausesI vars (l.drop k) = if clauseI vars none l[k] ≠ 0 then clauseI vars none l[k] else clausesI vars (l.drop (k + 1)) := by
  rw [List.drop_eq_getElem_cons h, clausesI]

set_option maxHeartbeats 400000 in
theorem check_c {P : Nat → Prop} {u : Value} {l : List (List Int)} (vars : Int) (w : World) (hv : Rows P w u l) :
    Calls Try.prog 37 #[.agg #[.int .i64 vars, u]] w fun e w' => e = .returned (.int .i64 (checkI vars l)) ∧ Ext w w' := by
  have hle := hv.le
  by_cases hs : sizesI vars l.length = 0
  · have hvars : 0 ≤ vars ∧ vars ≤ 4096 := by unfold sizesI at hs; split at hs <;> omega
    have hck : Hid (checkI vars l = clausesI vars l) := by show _ = _; unfold checkI; rw [if_neg (by simp [hs])]
    go_enter Try.func37, Try.ntmps37
    go_wp2_with (go_at_call 65; refine (sizes_c _ _ (hv.ext (Ext.of_alloc _ _))).mono ?_; rintro e w1 ⟨rfl, hx1⟩)
    have hb0 : w1.cell? ⟨w.heap.size, 0, none⟩ = some (.int .i64 vars) := hx1.cell (by simp)
    have hb1 : w1.cell? ⟨w.heap.size, 1, none⟩ = some u := hx1.cell (by simp)
    have hx := (Ext.of_alloc w _).trans hx1
    have hv1 := hv.ext hx
    clear hx1 hs
    go_loopw [4] (fun i wr => ∃ k m : Nat, k ≤ l.length ∧ i = .int .i64 k ∧ Hid (clausesI vars (l.drop k) = clausesI vars l) ∧ wr = w1.drewN m) (fun i _ => l.length - (intOf i).toNat)
    case atStart => exact ⟨0, 0, Nat.zero_le _, rfl, rfl, rfl⟩
    case round =>
      obtain ⟨k, m, hk, rfl, hn, rfl⟩ := hrel
      have hv' := hv1.ext (Ext.of_drewN w1 m)
      by_cases hlt : k < l.length
      · have hst := Lib.hid (clausesI_step (vars := vars) hlt)
        go_wp2_with ((with_reducible refine w_len elR.und ?_ ?_ hv'.len ?_); (· rfl); (· rfl); simp only [Act.put, List.setIfInBounds_toArray, List.set_cons_succ, List.set_cons_zero])
        (refine wp_region_quiet_lit (by kernel_rfl) (by kernel_rfl) ?_; (repeat (first | go_big_quiet_skip |  ((with_reducible refine q_ix elR ?_ ?_ ?_ ?_ hv' hlt ext_of_class ?_ ?_); (· rfl); (· exact fun _ => rfl); (· rfl); (· rfl); (· exact fun _ => rfl); intro _ c hc h1c; simp only [Act.put, List.setIfInBounds_toArray, List.set_cons_succ, List.set_cons_zero]) | ((with_reducible refine q_call Try.call27 ?_ ?_ (fun w hw => class_call hw (clause_c vars _ (Good.ext (R := Ints) hc (ext_of_class _ hw)) (by omega) (by omega))) ?_); (· rfl); (· rfl); simp only [Act.put, List.setIfInBounds_toArray, List.set_cons_succ, List.set_cons_zero])  | go_big_quiet_step (fail))); refine wpQuiet_nil ?_; rintro _ ⟨nq, rfl⟩)
        by_cases hz : clauseI vars none l[k] = 0
        · go_wp2
          go_roundw
          case rel => exact ⟨k + 1, m + nq, hlt, by go_num, by rw [← hn.out, hst.out, if_neg (by simp [hz])]; rfl, rfl⟩
          case measure => simp [intOf]; omega
        · go_wp2
          go_ret
          exact ⟨ret_i (by rw [hck.out, ← hn.out, hst.out, if_pos hz]), hx.drewN _⟩
      · obtain rfl : k = l.length := by omega
        go_wp2_with ((with_reducible refine w_len elR.und ?_ ?_ hv'.len ?_); (· rfl); (· rfl); simp only [Act.put, List.setIfInBounds_toArray, List.set_cons_succ, List.set_cons_zero])
        go_ret
        exact ⟨ret_i (by rw [hck.out, ← hn.out, List.drop_length, clausesI]), hx.drewN _⟩
  · have hck : Hid (checkI vars l = sizesI vars l.length) := by show _ = _; unfold checkI; rw [if_pos hs]
    go_enter Try.func37, Try.ntmps37
    go_wp2_with (go_at_call 65; refine (sizes_c _ _ (hv.ext (Ext.of_alloc _ _))).mono ?_; rintro e w1 ⟨rfl, hx1⟩)
    go_ret
    exact ⟨ret_i (by rw [hck.out]), (Ext.of_alloc w _).trans hx1⟩

def RetP (p : World → Value → Prop) (w : World) (e : Ending) (w' : World) : Prop := ∃ v, e = .returned v ∧ p w' v ∧ Ext w w'

def fewI : Nat → List (List Int) → Bool
  | _, [] => true
  | i, c :: l => if i < 50 then (if 20 < c.length then false else fewI (i + 1) l) else true
theorem fewI_step {l : List (List Int)} {k : Nat} (h : k < l.length) : fewI k (l.drop k) = if k < 50 then (if 20 < (l[k]).length then false else fewI (k + 1) (l.drop (k + 1))) else true := by
  rw [List.drop_eq_getElem_cons h, fewI]
def fewB (vars : Int) (l : List (List Int)) : Bool := if sizesI vars l.length ≠ 0 then true else if fewI 0 l = true then decide (l.length ≤ 40 ∧ vars ≤ 14) else false

set_option maxHeartbeats 2000000 in
theorem few41_c {P : Nat → Prop} {u : Value} {l : List (List Int)} (vars : Int) (w : World) (hv : Rows P w u l) :
    Calls Try.prog 36 #[.agg #[.int .i64 vars, u]] w fun e w' => e = .returned (.bool (fewB vars l)) ∧ Ext w w' := by
  have hle := hv.le
  by_cases hs : sizesI vars l.length = 0
  · have hvars : 0 ≤ vars ∧ vars ≤ 4096 := by unfold sizesI at hs; split at hs <;> omega
    have hck : Hid (fewB vars l = if fewI 0 l = true then decide (l.length ≤ 40 ∧ vars ≤ 14) else false) := by show _ = _; unfold fewB; rw [if_neg (by simp [hs])]
    go_enter Try.func36, Try.ntmps36
    go_wp2_with (go_at_call 65; refine (sizes_c _ _ (hv.ext (Ext.of_alloc _ _))).mono ?_; rintro e w1 ⟨rfl, hx1⟩)
    have hb0 : w1.cell? ⟨w.heap.size, 0, none⟩ = some (.int .i64 vars) := hx1.cell (by simp)
    have hb1 : w1.cell? ⟨w.heap.size, 1, none⟩ = some u := hx1.cell (by simp)
    have hx := (Ext.of_alloc w _).trans hx1
    have hv' := hv.ext hx
    clear hx1 hs
    go_loop [3] (fun i => ∃ k : Nat, k ≤ l.length ∧ i = .int .i64 k ∧ Hid (fewI k (l.drop k) = fewI 0 l)) (fun i => l.length - (intOf i).toNat)
    case atStart => exact ⟨0, Nat.zero_le _, rfl, rfl⟩
    case round =>
      obtain ⟨k, hk, rfl, hn⟩ := hrel
      have hlast : fewI 0 l = true → ∀ b : Bool, b = decide (l.length ≤ 40 ∧ vars ≤ 14) → Hid (fewB vars l = b) := fun h b hb => by show _ = _; rw [hck.out, if_pos h, hb]
      have Hlast := Lib.hid hlast
      clear hlast
      by_cases hlt : k < l.length
      · have hst := Lib.hid (fewI_step hlt)
        by_cases h50 : k < 50
        · go_wp2_with (first | ((with_reducible refine w_len elR.und ?_ ?_ hv'.len ?_); (· rfl); (· rfl); simp only [Act.put, List.setIfInBounds_toArray, List.set_cons_succ, List.set_cons_zero]) | ((with_reducible refine w_ix elR ?_ ?_ ?_ ?_ ?_ hv' hlt ?_); (· rfl); (· exact fun _ => rfl); (· exact fun _ => rfl); (· rfl); (· rfl); intro _ x hxx h1x; simp only [Act.put, List.setIfInBounds_toArray, List.set_cons_succ, List.set_cons_zero]) | ((with_reducible refine w_len elI.und ?_ ?_ (Arr.len hxx) ?_); (· rfl); (· rfl); simp only [Act.put, List.setIfInBounds_toArray, List.set_cons_succ, List.set_cons_zero]))
          · go_ret
            have e : fewI 0 l = false := by rw [← hn.out, hst.out, if_pos h50, if_pos (by omega)]
            exact ⟨ret_b (by rw [hck.out, e]; rfl), hx⟩
          · go_round
            case rel => exact ⟨k + 1, hlt, by go_num, by show _ = _; rw [← hn.out, hst.out, if_pos h50, if_neg (by omega)]⟩
            case measure => simp [intOf]; omega
        · have ht : fewI 0 l = true := by rw [← hn.out, hst.out, if_neg h50]
          have h40 : ¬ l.length ≤ 40 := by omega
          go_wp2_with (first | ((with_reducible refine w_len elR.und ?_ ?_ hv'.len ?_); (· rfl); (· rfl); simp only [Act.put, List.setIfInBounds_toArray, List.set_cons_succ, List.set_cons_zero]))
          go_ret
          exact ⟨ret_b (Hlast.out ht _ (by simp [h40])).out.symm, hx⟩
      · obtain rfl : k = l.length := by omega
        have ht : fewI 0 l = true := by rw [← hn.out, List.drop_length, fewI]
        by_cases h40 : l.length ≤ 40
        · go_wp2_with (first | ((with_reducible refine w_len elR.und ?_ ?_ hv'.len ?_); (· rfl); (· rfl); simp only [Act.put, List.setIfInBounds_toArray, List.set_cons_succ, List.set_cons_zero]))
          go_ret
          exact ⟨ret_b (Hlast.out ht _ (by simp [h40])).out.symm, hx⟩
        · go_wp2_with (first | ((with_reducible refine w_len elR.und ?_ ?_ hv'.len ?_); (· rfl); (· rfl); simp only [Act.put, List.setIfInBounds_toArray, List.set_cons_succ, List.set_cons_zero]))
          go_ret
          exact ⟨ret_b (Hlast.out ht _ (by simp [h40])).out.symm, hx⟩
  · have hck : Hid (fewB vars l = true) := by show _ = _; unfold fewB; rw [if_pos hs]
    go_enter Try.func36, Try.ntmps36
    go_wp2_with (go_at_call 65; refine (sizes_c _ _ (hv.ext (Ext.of_alloc _ _))).mono ?_; rintro e w1 ⟨rfl, hx1⟩)
    go_ret
    exact ⟨ret_b (by rw [hck.out]), (Ext.of_alloc w _).trans hx1⟩

end Go.Proofs.Ytpiidgcljlalmaa
namespace Go.Proofs.Ytpiidgcljlalmaa
open Go.RowKit

theorem clauseI_ne {vars : Int} : ∀ {q : Option Int} {c : List Int}, clauseI vars q c = 0 ∨ clauseI vars q c = 2 ∨ clauseI vars q c = 14
  | none, [] => by simp [clauseI]
  | some _, [] => by simp [clauseI]
  | none, x :: c => by
    simp only [clauseI]
    split
    · exact clauseI_ne
    · simp
  | some p, x :: c => by
    simp only [clauseI]
    split
    · split
      · simp
      · exact clauseI_ne
    · simp
theorem badI_some {vars : Int} : ∀ {p : List (List Int)} {k i : Nat} {e : Int}, badI vars k p = some (i, e) → e = 2 ∨ e = 14
  | [], k, i, e, h => by simp [badI] at h
  | c :: p, k, i, e, h => by
    simp only [badI] at h
    split at h
    · rename_i hz
      simp only [Option.some.injEq, Prod.mk.injEq] at h
      rw [← h.2]
      rcases clauseI_ne (vars := vars) (q := none) (c := c) with h' | h'
      · exact absurd h' hz
      · exact h'
    · exact badI_some h

end Go.Proofs.Ytpiidgcljlalmaa
namespace Go.Proofs.Ytpiidgcljlalmaa
open Go.RowKit

theorem remI_length {α : Type} {l : List α} {i : Nat} (h : i < l.length) : (remI l i).length = l.length - 1 := by unfold remI; simp; omega
theorem remI_mem {α : Type} {l : List α} {i : Nat} {x : α} (h : x ∈ remI l i) : x ∈ l := by
  unfold remI at h
  rcases List.mem_append.1 h with h | h
  · exact List.mem_of_mem_take h
  · exact List.mem_of_mem_drop h
theorem verifyI_ok {vars : Int} {l p : List (List Int)} (h : (verifyI vars l p).2 = 0) : checkI vars l = 0 ∧ p.length ≤ 32768 ∧ badI vars 0 p = none ∧ gapI l p < 0 := by
  unfold verifyI at h
  by_cases hc : checkI vars l = 0
  · rw [if_neg (by simp [hc])] at h
    by_cases hp : p.length ≤ 32768
    · rw [if_neg (by omega)] at h
      cases hb : badI vars 0 p with
      | none =>
        simp only [hb] at h
        by_cases hg : 0 ≤ gapI l p
        · rw [if_pos hg] at h; exact absurd h (by simp)
        · exact ⟨hc, hp, rfl, by omega⟩
      | some r =>
        simp only [hb] at h
        have := badI_some (i := r.1) (e := r.2) hb
        omega
    · rw [if_pos (by omega)] at h; exact absurd h (by simp)
  · rw [if_pos hc] at h; exact absurd h hc
theorem gapI_nil {l : List (List Int)} : gapI l [] = 0 := rfl

theorem upI_succ (k : Nat) : upI (k + 1) = upI k ++ [(k : Int)] := by simp [upI, List.range_succ]
theorem upI_length (k : Nat) : (upI k).length = k := by simp [upI]
theorem upI_mem {k : Nat} {x : Int} (h : x ∈ upI k) : 0 ≤ x ∧ x < k := by
  simp only [upI, List.mem_map, List.mem_range] at h
  obtain ⟨a, ha, rfl⟩ := h
  simp only [Int.ofNat_eq_natCast]; omega

set_option maxHeartbeats 2000000 in
theorem few42_c {P : Nat → Prop} {u : Value} {l : List (List Int)} (w : World) (hv : Rows P w u l) :
    Calls Try.prog 12 #[u] w fun e w' => e = .returned (.bool (few2B l)) ∧ w' = w := by
  have hle := hv.le
  have hck : Hid (few2B l = if few2I 0 l = true then decide (l.length ≤ 20 ∨ 32768 < l.length) else false) := rfl
  go_enter Try.func12, Try.ntmps12
  go_wp2
  go_loop [3] (fun i => ∃ k : Nat, k ≤ l.length ∧ i = .int .i64 k ∧ Hid (few2I k (l.drop k) = few2I 0 l)) (fun i => l.length - (intOf i).toNat)
  case atStart => exact ⟨0, Nat.zero_le _, rfl, rfl⟩
  case round =>
    obtain ⟨k, hk, rfl, hn⟩ := hrel
    have hlast : few2I 0 l = true → ∀ b : Bool, b = decide (l.length ≤ 20 ∨ 32768 < l.length) → Hid (few2B l = b) := fun h b hb => by show _ = _; rw [hck.out, if_pos h, hb]
    have Hlast := Lib.hid hlast
    clear hlast
    by_cases hlt : k < l.length
    · have hst := Lib.hid (few2I_step hlt)
      by_cases h50 : k < 40
      · go_wp2_with (first | ((with_reducible refine w_len elR.und ?_ ?_ hv.len ?_); (· rfl); (· rfl); simp only [Act.put, List.setIfInBounds_toArray, List.set_cons_succ, List.set_cons_zero]) | ((with_reducible refine w_ix elR ?_ ?_ ?_ ?_ ?_ hv hlt ?_); (· rfl); (· exact fun _ => rfl); (· exact fun _ => rfl); (· rfl); (· rfl); intro _ x hxx h1x; simp only [Act.put, List.setIfInBounds_toArray, List.set_cons_succ, List.set_cons_zero]) | ((with_reducible refine w_len elI.und ?_ ?_ (Arr.len hxx) ?_); (· rfl); (· rfl); simp only [Act.put, List.setIfInBounds_toArray, List.set_cons_succ, List.set_cons_zero]))
        · go_ret
          have e : few2I 0 l = false := by rw [← hn.out, hst.out, if_pos h50, if_pos (by omega)]
          exact ⟨ret_b (by rw [hck.out, e]; rfl), rfl⟩
        · go_round
          case rel => exact ⟨k + 1, hlt, by go_num, by show _ = _; rw [← hn.out, hst.out, if_pos h50, if_neg (by omega)]⟩
          case measure => simp [intOf]; omega
      · have ht : few2I 0 l = true := by rw [← hn.out, hst.out, if_neg h50]
        have h20 : ¬ l.length ≤ 20 := by omega
        have hd20 : decide ((l.length : Int) ≤ 20) = false := decide_eq_false (by omega)
        by_cases hbig : 32768 < l.length
        · go_wp2_with (first | ((with_reducible refine w_len elR.und ?_ ?_ hv.len ?_); (· rfl); (· rfl); simp only [Act.put, List.setIfInBounds_toArray, List.set_cons_succ, List.set_cons_zero]))
          go_ret
          exact ⟨ret_b (Hlast.out ht _ (by rw [decide_eq_decide]; omega)).out.symm, rfl⟩
        · go_wp2_with (first | ((with_reducible refine w_len elR.und ?_ ?_ hv.len ?_); (· rfl); (· rfl); simp only [Act.put, List.setIfInBounds_toArray, List.set_cons_succ, List.set_cons_zero]))
          go_ret
          exact ⟨ret_b (Hlast.out ht _ (by rw [decide_eq_decide]; omega)).out.symm, rfl⟩
    · obtain rfl : k = l.length := by omega
      have ht : few2I 0 l = true := by rw [← hn.out, List.drop_length, few2I]
      by_cases h20 : l.length ≤ 20
      · go_wp2_with (first | ((with_reducible refine w_len elR.und ?_ ?_ hv.len ?_); (· rfl); (· rfl); simp only [Act.put, List.setIfInBounds_toArray, List.set_cons_succ, List.set_cons_zero]))
        go_ret
        exact ⟨ret_b (Hlast.out ht _ (by simp [h20])).out.symm, rfl⟩
      · have hd20 : decide ((l.length : Int) ≤ 20) = false := decide_eq_false (by omega)
        by_cases hbig : 32768 < l.length
        · go_wp2_with (first | ((with_reducible refine w_len elR.und ?_ ?_ hv.len ?_); (· rfl); (· rfl); simp only [Act.put, List.setIfInBounds_toArray, List.set_cons_succ, List.set_cons_zero]))
          go_ret
          exact ⟨ret_b (Hlast.out ht _ (by rw [decide_eq_decide]; omega)).out.symm, rfl⟩
        · go_wp2_with (first | ((with_reducible refine w_len elR.und ?_ ?_ hv.len ?_); (· rfl); (· rfl); simp only [Act.put, List.setIfInBounds_toArray, List.set_cons_succ, List.set_cons_zero]))
          go_ret
          exact ⟨ret_b (Hlast.out ht _ (by rw [decide_eq_decide]; omega)).out.symm, rfl⟩

end Go.Proofs.Ytpiidgcljlalmaa
