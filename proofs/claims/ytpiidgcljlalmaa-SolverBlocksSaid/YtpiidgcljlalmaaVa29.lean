/- Part 29: walks by contracts, and plain laws. -/
import Derived.LoopIn
import Derived.LoopNIn
import Derived.RangeFuncBound
import Derived.RangeFuncNested
import Derived.Shelf.RegionOpen
import Derived.Test.YtpiidgcljlalmaaVa27
set_option linter.unusedVariables false
set_option linter.unusedSimpArgs false
set_option linter.unusedSectionVars false
namespace Go.Proofs.Ytpiidgcljlalmaa
open Go.RowKit

def RW : Rel Value := fun _ _ v x => v = x
instance : Good RW := ⟨fun h _ => h, fun h _ => h, fun h => h⟩

section
variable {F : Fence} {n : Nat} {P : Program} {ops : Array Oper} {rest : List Oper} {o : Oper} {a : Act} {Q : Exit → Act → World → Prop} {w : World}

theorem wpListIn_valueG (hw : Region.wanted o (yielded ops a.tmps) = true) (hab : o.about P w a.eval = none) (hnd : ∀ c, o.op ≠ .defer c) {v : Value} {w' : World} (h : (execOp a.eval o).run P w = .ok (.value v) w') (hk : wpListIn F n P ops Q rest (a.put o.dst v) w') : wpListIn F n P ops Q (o :: rest) a w :=
  wpListIn_step fun K hK => by
    rw [if_pos hw]
    unfold Oper.wpIn
    refine ⟨fun f hf => (by rw [hab] at hf; cases hf), ?_⟩
    rw [Oper.semAt_plain F _ _ hnd, h]
    exact hK _ _ hk

theorem wi_len {x : Operand} {t e : TypeId} {dst : Option Tmp} {ty1 : TypeId} {ps1 : String} {af1 : Array Edge} {g1 : Option (Nat × Bool)}
    {v : Value} (hu : P.underlying t = some (.slice e)) (hw : Region.wanted { dst := dst, op := .call { callee := .builtin .len, args := #[x], argTypes := #[t] }, type := ty1, pos := ps1, after := af1, guard := g1 } (yielded ops a.tmps) = true) (hx : a.eval x = v) {m : Nat} (hv : Len v m) (hk : wpListIn F n P ops Q rest (a.put dst (.int .i64 m)) w) :
    wpListIn F n P ops Q ({ dst := dst, op := .call { callee := .builtin .len, args := #[x], argTypes := #[t] }, type := ty1, pos := ps1, after := af1, guard := g1 } :: rest) a w := by
  refine wpListIn_valueG hw (by simp [Oper.about, resolve, Target.leads, Sem.run_pure]) (fun c hc => by cases hc) (v := .int .i64 m) (w' := w) ?_ hk
  subst hx
  unfold execOp
  simp only [resolve, invoke, builtin, Sem.run_bind, Sem.run_pure, Result.andThen_ok, List.map_toArray, List.map_cons, List.map_nil, run_len hu hv]

variable {t e : TypeId} {bytes : Nat} {z : Value}

theorem wi_ix {x i : Operand} {d : Tmp} {dst2 : Option Tmp} {ty1 ty2 : TypeId} {ps1 ps2 : String} {af1 af2 : Array Edge} {g1 g2 : Option (Nat × Bool)} (E : ElT P t e 1 z bytes false)
    (hw : Region.wanted { dst := some d, op := .indexAddr t x i, type := ty1, pos := ps1, after := af1, guard := g1 } (yielded ops a.tmps) = true) (hw2 : ∀ p : Addr, Region.wanted { dst := dst2, op := .load e (.tmp d), type := ty2, pos := ps2, after := af2, guard := g2 } (yielded ops (a.put (some d) (.pointer (some p))).tmps) = true)
    (hdl : ∀ p : Value, (a.put (some d) p).eval (.tmp d) = p) {α : Type} {R : Rel α} {PB : Nat → Prop} {v : Value} {xs : List α} {k : Nat} (hx : a.eval x = v) (hi : a.eval i = .int .i64 (k : Int))
    (hv : Arr R PB w v xs) (hk : k < xs.length)
    (h : ∀ (p : Addr) (u : Value), R PB w u xs[k] → u.oneCell' = true → wpListIn F n P ops Q rest ((a.put (some d) (.pointer (some p))).put dst2 u) w) :
    wpListIn F n P ops Q ({ dst := some d, op := .indexAddr t x i, type := ty1, pos := ps1, after := af1, guard := g1 } :: { dst := dst2, op := .load e (.tmp d), type := ty2, pos := ps2, after := af2, guard := g2 } :: rest) a w := by
  obtain ⟨ad, cap, rfl, h1, h2, h3⟩ := hv
  obtain ⟨u, b, off, r1, r2, rfl, r4, r5⟩ := h3 k hk
  have hix := run_indexAt (w := w) E b off xs.length cap k .i64 hk
  rw [Nat.mul_one] at hix
  refine wpListIn_valueG hw rfl (fun c hc => by cases hc) (v := .pointer (some ⟨b, off + k, none⟩)) (w' := w) ?_ ?_
  · unfold execOp
    simp only [hx, hi, Sem.run_bind, hix, Result.andThen_ok, Sem.run_pure]
  · refine wpListIn_valueG (hw2 _) rfl (fun c hc => by cases hc) (v := u) (w' := w) ?_ (h _ u r1 r2)
    have he := hdl (.pointer (some ⟨b, off + k, none⟩))
    unfold execOp
    simp only [he, Instr.loadAt, Instr.sureAddr, loadVar, Sem.run_bind, E.agg, Result.andThen_ok, Sem.run_pure, Bool.false_eq_true, if_false, run_load, r5]
end

theorem rows_named {P : Nat → Prop} {w : World} {u : Value} {l : List (List Int)} (h : Rows P w u l) : ∃ xs : List (Value × List Int), xs.map Prod.snd = l ∧ (∀ x ∈ xs, Ints P w x.1 x.2 ∧ x.1.oneCell' = true) ∧ Arr RW P w u (xs.map Prod.fst) := by
  obtain ⟨a, cap, hv, h1, h2, h3⟩ := h
  have hch : ∀ k : Nat, ∃ y : Value, ∀ h : k < l.length, Ints P w y l[k] ∧ y.oneCell' = true ∧ ∃ b off, a = some ⟨b, off, none⟩ ∧ P b ∧ w.cell? ⟨b, off + k, none⟩ = some y := by
    intro k
    by_cases hk : k < l.length
    · obtain ⟨y, b, off, r1, r2, r3, r4, r5⟩ := h3 k hk
      exact ⟨y, fun _ => ⟨r1, r2, b, off, r3, r4, r5⟩⟩
    · exact ⟨undef, fun h => absurd h hk⟩
  obtain ⟨f, hf⟩ := Classical.axiomOfChoice hch
  refine ⟨(List.range l.length).map fun k => (f k, l.getD k []), ?_, ?_, ?_⟩
  · apply List.ext_getElem
    · simp
    · intro i h1 h2
      simp [h2]
  · intro x hx
    simp only [List.mem_map, List.mem_range] at hx
    obtain ⟨k, hk, rfl⟩ := hx
    have := hf k hk
    simp only [List.getD_eq_getElem?_getD, List.getElem?_eq_getElem hk, Option.getD_some]
    exact ⟨this.1, this.2.1⟩
  · refine ⟨a, cap, by simpa using hv, by simpa using h1, h2, fun k hk => ?_⟩
    have hk' : k < l.length := by simpa using hk
    obtain ⟨_, r2, b, off, r3, r4, r5⟩ := hf k hk'
    exact ⟨f k, b, off, by simp [RW], r2, r3, r4, r5⟩

def KeepsBut (bad : Nat → Prop) (W W' : World) : Prop := W.heap.size ≤ W'.heap.size ∧ ∀ k o, ¬ bad k → W.heap[k]? = some o → o.isCells = true → W'.heap[k]? = some o
theorem KeepsBut.refl (bad : Nat → Prop) (W : World) : KeepsBut bad W W := ⟨Nat.le_refl _, fun _ _ _ h _ => h⟩
theorem KeepsBut.trans {bad : Nat → Prop} {A B C : World} (h : KeepsBut bad A B) (k : KeepsBut bad B C) : KeepsBut bad A C := ⟨Nat.le_trans h.1 k.1, fun i o hb hi ho => k.2 i o hb (h.2 i o hb hi ho) ho⟩
theorem KeepsBut.putObj {bad : Nat → Prop} (W : World) (l : Nat) (o o' : Obj) (hl : W.heap[l]? = some o) (hc : o.isCells = false) : KeepsBut bad W (W.putObj l o') :=
  ⟨by simp, fun k x _ hk hx => by
    by_cases e : k = l
    · subst e; rw [hl] at hk; cases hk; rw [hc] at hx; cases hx
    · exact (World.putObj_heap_other e).trans hk⟩
theorem KeepsBut.cell {bad : Nat → Prop} {W W' : World} (h : KeepsBut bad W W') {p : Addr} {v : Value} (hb : ¬ bad p.block) (hc : W.cell? p = some v) : W'.cell? p = some v := by
  obtain ⟨o, ho, hoc⟩ := cells_of_cell hc
  exact (World.cell?_of_block ((h.2 _ _ hb ho hoc).trans ho.symm)).trans hc
theorem KeepsBut.ext {bad : Nat → Prop} {W W' : World} (h : Ext W W') : KeepsBut bad W W' := ⟨h.size, fun k o _ hk _ => (h.block k (Array.getElem?_eq_some_iff.1 hk).1).trans hk⟩

end Go.Proofs.Ytpiidgcljlalmaa
namespace Go.Proofs.Ytpiidgcljlalmaa
open Go.RowKit

abbrev IR (x : Int) : Prop := -9223372036854775808 ≤ x ∧ x ≤ 9223372036854775807
def pvarI (x : Int) : Int := if varI x ≤ 0 then 0 else varI x

theorem wrap64_id {x : Int} (h : IR x) : wrap64 x = x := by unfold IR at h; unfold wrap64; omega
theorem wrap64_neg {x : Int} (h : IR x) : wrap64 (-x) = -x ∨ x = -9223372036854775808 := by
  by_cases hx : x = -9223372036854775808
  · exact .inr hx
  · exact .inl (wrap64_id ⟨by have := h.1; have := h.2; omega, by have := h.1; omega⟩)
theorem good_pvar {vars x : Int} (hx : IR x) (h1 : vars ≤ 9223372036854775807) : goodI vars x = true ↔ ¬ (pvarI x < 1 ∨ vars < pvarI x) := by
  unfold goodI pvarI varI
  rw [decide_eq_true_eq]
  rcases wrap64_neg hx with h | rfl
  · rw [h]; split <;> split <;> omega
  · have : wrap64 (-(-9223372036854775808)) = -9223372036854775808 := by unfold wrap64; omega
    rw [this]; simp; omega
theorem good_var {vars x : Int} (h1 : vars ≤ 9223372036854775807) (h : goodI vars x = true) : varI x = (if x < 0 then -x else x) ∧ 1 ≤ varI x ∧ varI x ≤ vars ∧ IR x ∧ wrap64 (-x) = -x := by
  unfold goodI at h
  rw [decide_eq_true_eq] at h
  have hr : IR x := ⟨by omega, by omega⟩
  have hw : wrap64 (-x) = -x := wrap64_id ⟨by omega, by omega⟩
  unfold varI
  rw [hw]
  split <;> exact ⟨rfl, by omega, by omega, hr, rfl⟩
theorem good_pvar_eq {vars x : Int} (h1 : vars ≤ 9223372036854775807) (h : goodI vars x = true) : pvarI x = varI x := by
  have := good_var h1 h
  unfold pvarI; rw [if_neg (by omega)]

theorem pvar_le {x y : Int} (h1 : 1 ≤ pvarI x) : pvarI x ≤ pvarI y ↔ varI x ≤ varI y := by
  unfold pvarI at *
  by_cases a : varI x ≤ 0
  · rw [if_pos a] at h1; omega
  · rw [if_neg a] at h1 ⊢
    by_cases b : varI y ≤ 0
    · rw [if_pos b]; omega
    · rw [if_neg b]

theorem variable_c (x : Int) (w : World) : Calls Try.prog 45 #[.int .i64 x] w fun e w' => e = .returned (.int .i64 (pvarI x)) ∧ w' = w := by
  unfold pvarI varI
  go_enter Try.func45, Try.ntmps45
  go_wp2
  all_goals (go_ret; refine ⟨ret_i ?_, rfl⟩)
  all_goals omega

set_option maxHeartbeats 1000000 in
theorem clause2_c {P : Nat → Prop} {v : Value} {zs : List Int} (vars : Int) (w : World) (hv : Ints P w v zs) (hv1 : 0 ≤ vars) (hv2 : vars ≤ 9223372036854775807) (hr : ∀ x ∈ zs, IR x) :
    Calls Try.prog 67 #[.int .i64 vars, v] w fun e w' => e = .returned (.int .i64 (clauseI vars none zs)) ∧ ∃ n, w' = w.drewN n := by
  have hle := hv.le
  go_enter Try.func67, Try.ntmps67
  go_wp2_with ((with_reducible refine w_len elI.und ?_ ?_ hv.len ?_); (· rfl); (· rfl); simp only [Act.put, List.setIfInBounds_toArray, List.set_cons_succ, List.set_cons_zero])
  go_loopw [10] (fun i wr => ∃ k m : Nat, k ≤ zs.length ∧ i = .int .i64 k ∧ Hid (clauseI vars (prevI zs k) (zs.drop k) = clauseI vars none zs) ∧ wr = w.drewN m) (fun i _ => zs.length - (intOf i).toNat)
  case atStart => exact ⟨0, 0, Nat.zero_le _, rfl, rfl, rfl⟩
  case round =>
    obtain ⟨k, m, hk, rfl, hn, rfl⟩ := hrel
    have hv' := hv.ext (Ext.of_drewN w m)
    by_cases hlt : k < zs.length
    · have hir := hr _ (List.getElem_mem hlt)
      by_cases hx : goodI vars zs[k] = true
      · have hp := good_pvar_eq hv2 hx
        obtain ⟨-, hp1, hp2, -, -⟩ := good_var hv2 hx
        rw [← hp] at hp1 hp2
        have Hp := Lib.hid hp
        have Hx := Lib.hid hx
        clear hp hx hir
        by_cases h0 : k = 0
        · subst h0
          go_wp2_with (first | ((with_reducible refine w_ixI elI ?_ ?_ ?_ ?_ ?_ hv' hlt ?_); (· rfl); (· exact fun _ => rfl); (· exact fun _ => rfl); (· rfl); (· rfl); intro _; simp only [Act.put, List.setIfInBounds_toArray, List.set_cons_succ, List.set_cons_zero]) | (go_at_call 45; refine (variable_c _ _).mono ?_; rintro e w1 ⟨rfl, rfl⟩))
          go_roundw
          case rel => exact ⟨1, m, hlt, rfl, by rw [← hn.out, clauseI_zero hlt Hx.out]; rfl, rfl⟩
          case measure => simp [intOf]; omega
        · obtain ⟨j, hj, hjl⟩ : ∃ j, k = j + 1 ∧ j < zs.length := ⟨k - 1, by omega, by omega⟩
          have hs : Hid (clauseI vars (prevI zs k) (zs.drop k) = if varI zs[k] ≤ varI zs[j] then 14 else clauseI vars (prevI zs (k + 1)) (zs.drop (k + 1))) := by
            subst hj; exact clauseI_succ hlt Hx.out
          have hpos : 0 < k := by omega
          have Hj : Hid ((k : Int) - 1 = (j : Int)) := by show _ = _; omega
          clear h0 hj
          go_wp2_with (first | ((with_reducible refine w_ixI elI ?_ ?_ ?_ ?_ ?_ hv' hlt ?_); (· rfl); (· exact fun _ => rfl); (· exact fun _ => rfl); (· rfl); (· rfl); intro _; simp only [Act.put, List.setIfInBounds_toArray, List.set_cons_succ, List.set_cons_zero]))
          (go_at_call 45; refine (variable_c _ _).mono ?_; rintro e w1 ⟨rfl, rfl⟩)
          go_wp2_with (first | (((with_reducible refine w_ixJ elI ?_ ?_ ?_ ((k : Int) - 1) Hj.out ?_ ?_ hv' hjl ?_); (· rfl); (· exact fun _ => rfl); (· exact fun _ => rfl); (· rfl); (· rfl); intro _ y hyy h1y; simp only [Act.put, List.setIfInBounds_toArray, List.set_cons_succ, List.set_cons_zero]); cases (show y = .int .i64 zs[j] from hyy)) | (go_at_call 45; refine (variable_c _ _).mono ?_; rintro e w1 ⟨rfl, rfl⟩))
          · go_ret
            refine ⟨ret_i ?_, m, rfl⟩
            have hle2 : pvarI zs[k] ≤ pvarI zs[j] := by omega
            rw [← hn.out, hs.out, if_pos ((pvar_le hp1).1 hle2)]
          · go_roundw
            case rel =>
              have hle2 : ¬ pvarI zs[k] ≤ pvarI zs[j] := by omega
              exact ⟨k + 1, m, hlt, by go_num, by rw [← hn.out, hs.out, if_neg (fun h => hle2 ((pvar_le hp1).2 h))]; rfl, rfl⟩
            case measure => simp [intOf]; omega
      · have hb := Lib.hid (clauseI_bad hlt hx)
        have hx' : pvarI zs[k] < 1 ∨ vars < pvarI zs[k] := Classical.not_not.1 fun h => hx ((good_pvar hir hv2).2 h)
        clear hx hr hir
        by_cases hlow : pvarI zs[k] < 1
        · clear hx'
          go_wp2_with (first | ((with_reducible refine w_ixI elI ?_ ?_ ?_ ?_ ?_ hv' hlt ?_); (· rfl); (· exact fun _ => rfl); (· exact fun _ => rfl); (· rfl); (· rfl); intro _; simp only [Act.put, List.setIfInBounds_toArray, List.set_cons_succ, List.set_cons_zero]) | (go_at_call 45; refine (variable_c _ _).mono ?_; rintro e w1 ⟨rfl, rfl⟩))
          go_ret
          exact ⟨ret_i (by rw [← hn.out, hb.out]), m, rfl⟩
        · have hhi : vars < pvarI zs[k] := hx'.resolve_left hlow
          clear hx'
          go_wp2_with (first | ((with_reducible refine w_ixI elI ?_ ?_ ?_ ?_ ?_ hv' hlt ?_); (· rfl); (· exact fun _ => rfl); (· exact fun _ => rfl); (· rfl); (· rfl); intro _; simp only [Act.put, List.setIfInBounds_toArray, List.set_cons_succ, List.set_cons_zero]) | (go_at_call 45; refine (variable_c _ _).mono ?_; rintro e w1 ⟨rfl, rfl⟩))
          go_ret
          exact ⟨ret_i (by rw [← hn.out, hb.out]), m, rfl⟩
    · obtain rfl : k = zs.length := by omega
      go_wp2
      go_ret
      exact ⟨ret_i (by rw [← hn.out, List.drop_length, clauseI]), m, rfl⟩

theorem size_c {P : Nat → Prop} {u : Value} {l : List (List Int)} (vars : Int) (w : World) (hv : Rows P w u l) :
    Calls Try.prog 66 #[.agg #[.int .i64 vars, u]] w fun e w' => e = .returned (.int .i64 (sizesI vars l.length)) ∧ Ext w w' := by
  have hle := hv.le
  go_enter Try.func66, Try.ntmps66
  go_wp2_with ((with_reducible refine w_len elR.und ?_ ?_ hv.len ?_); (· rfl); (· rfl); simp only [Act.put, List.setIfInBounds_toArray, List.set_cons_succ, List.set_cons_zero])
  all_goals go_ret
  all_goals exact ⟨ret_i (by unfold sizesI; (repeat' split) <;> first | rfl | omega), Ext.of_alloc _ _⟩

abbrev IRR (l : List (List Int)) : Prop := ∀ c ∈ l, ∀ x ∈ c, IR x

set_option maxHeartbeats 400000 in
theorem pcheck_c {P : Nat → Prop} {u : Value} {l : List (List Int)} (vars : Int) (w : World) (hv : Rows P w u l) (hr : IRR l) :
    Calls Try.prog 38 #[.agg #[.int .i64 vars, u]] w fun e w' => e = .returned (.int .i64 (checkI vars l)) ∧ Ext w w' := by
  have hle := hv.le
  by_cases hs : sizesI vars l.length = 0
  · have hvars : 0 ≤ vars ∧ vars ≤ 4096 := by unfold sizesI at hs; split at hs <;> omega
    have hck : Hid (checkI vars l = clausesI vars l) := by show _ = _; unfold checkI; rw [if_neg (by simp [hs])]
    go_enter Try.func38, Try.ntmps38
    go_wp2_with (first | (go_at_call 66; refine (size_c _ _ (hv.ext (Ext.of_alloc _ _))).mono ?_; rintro e w1 ⟨rfl, hx1⟩; have hb1 : w1.cell? ⟨w.heap.size, 1, none⟩ = some u := hx1.cell (by simp)) | ((with_reducible refine w_len elR.und ?_ ?_ hv.len ?_); (· rfl); (· rfl); simp only [Act.put, List.setIfInBounds_toArray, List.set_cons_succ, List.set_cons_zero]))
    have hb0 : w1.cell? ⟨w.heap.size, 0, none⟩ = some (.int .i64 vars) := hx1.cell (by simp)
    have hx := (Ext.of_alloc w _).trans hx1
    have hv1 := hv.ext hx
    clear hx1 hs
    go_loopw [15] (fun i wr => ∃ k m : Nat, k ≤ l.length ∧ i = .int .i64 k ∧ Hid (clausesI vars (l.drop k) = clausesI vars l) ∧ wr = w1.drewN m) (fun i _ => l.length - (intOf i).toNat)
    case atStart => exact ⟨0, 0, Nat.zero_le _, rfl, rfl, rfl⟩
    case round =>
      obtain ⟨k, m, hk, rfl, hn, rfl⟩ := hrel
      have hv' := hv1.ext (Ext.of_drewN w1 m)
      by_cases hlt : k < l.length
      · have hst := Lib.hid (clausesI_step (vars := vars) hlt)
        have hrk := hr _ (List.getElem_mem hlt)
        by_cases hz : clauseI vars none l[k] = 0
        · go_wp2_with (first | ((with_reducible refine w_ix elR ?_ ?_ ?_ ?_ ?_ hv' hlt ?_); (· rfl); (· exact fun _ => rfl); (· exact fun _ => rfl); (· rfl); (· rfl); intro _ c hc h1c; simp only [Act.put, List.setIfInBounds_toArray, List.set_cons_succ, List.set_cons_zero]) | (go_at_call 67; refine (clause2_c vars _ hc (by omega) (by omega) hrk).mono ?_; rintro e w2 ⟨rfl, nq, rfl⟩))
          go_roundw
          case rel => exact ⟨k + 1, m + nq, hlt, by go_num, by rw [← hn.out, hst.out, if_neg (by simp [hz])]; rfl, rfl⟩
          case measure => simp [intOf]; omega
        · go_wp2_with (first | ((with_reducible refine w_ix elR ?_ ?_ ?_ ?_ ?_ hv' hlt ?_); (· rfl); (· exact fun _ => rfl); (· exact fun _ => rfl); (· rfl); (· rfl); intro _ c hc h1c; simp only [Act.put, List.setIfInBounds_toArray, List.set_cons_succ, List.set_cons_zero]) | (go_at_call 67; refine (clause2_c vars _ hc (by omega) (by omega) hrk).mono ?_; rintro e w2 ⟨rfl, nq, rfl⟩))
          go_ret
          exact ⟨ret_i (by rw [hck.out, ← hn.out, hst.out, if_pos hz]), hx.drewN _⟩
      · obtain rfl : k = l.length := by omega
        go_wp2
        go_ret
        exact ⟨ret_i (by rw [hck.out, ← hn.out, List.drop_length, clausesI]), hx.drewN _⟩
  · have hck : Hid (checkI vars l = sizesI vars l.length) := by show _ = _; unfold checkI; rw [if_pos hs]
    go_enter Try.func38, Try.ntmps38
    go_wp2_with (go_at_call 66; refine (size_c _ _ (hv.ext (Ext.of_alloc _ _))).mono ?_; rintro e w1 ⟨rfl, hx1⟩)
    go_ret
    exact ⟨ret_i (by rw [hck.out]), (Ext.of_alloc w _).trans hx1⟩

end Go.Proofs.Ytpiidgcljlalmaa
namespace Go.Proofs.Ytpiidgcljlalmaa
open Go.RowKit

def beforeI (zs : List Int) (k : Nat) : Int := match prevI zs k with
  | none => 0
  | some p => varI p

theorem clauseI_before {vars : Int} {zs : List Int} {k : Nat} (h : k < zs.length) (hx : goodI vars zs[k] = true) (h1 : 1 ≤ varI zs[k]) :
    clauseI vars (prevI zs k) (zs.drop k) = if varI zs[k] ≤ beforeI zs k then 14 else clauseI vars (prevI zs (k + 1)) (zs.drop (k + 1)) := by
  cases k with
  | zero => rw [clauseI_zero h hx, if_neg (by show ¬ varI zs[0] ≤ 0; omega)]
  | succ k =>
    have hb : beforeI zs (k + 1) = varI zs[k] := by unfold beforeI; rw [prevI, List.getElem?_eq_getElem (by omega)]
    rw [clauseI_succ h hx, hb]

set_option maxHeartbeats 1000000 in
theorem single_c {P : Nat → Prop} {v : Value} {zs : List Int} (vars : Int) (w : World) (hv : Ints P w v zs) (hv1 : 0 ≤ vars) (hv2 : vars ≤ 9223372036854775807) :
    Calls Try.prog 39 #[.int .i64 vars, v] w fun e w' => e = .returned (.int .i64 (clauseI vars none zs)) ∧ w' = w := by
  have hle := hv.le
  go_enter Try.func39, Try.ntmps39
  go_wp2_with ((with_reducible refine w_len elI.und ?_ ?_ hv.len ?_); (· rfl); (· rfl); simp only [Act.put, List.setIfInBounds_toArray, List.set_cons_succ, List.set_cons_zero])
  go_loop [5, 11] (fun b i => ∃ k : Nat, k ≤ zs.length ∧ i = .int .i64 k ∧ b = .int .i64 (beforeI zs k) ∧ Hid (clauseI vars (prevI zs k) (zs.drop k) = clauseI vars none zs)) (fun _ i => zs.length - (intOf i).toNat)
  case atStart => exact ⟨0, Nat.zero_le _, rfl, rfl, rfl⟩
  case round =>
    obtain ⟨k, hk, rfl, rfl, hn⟩ := hrel
    by_cases hlt : k < zs.length
    · by_cases hx : goodI vars zs[k] = true
      · obtain ⟨hva, hp1, hp2, -, hw⟩ := good_var hv2 hx
        have Hx := Lib.hid hx
        have hgood := hx
        unfold goodI at hgood
        rw [decide_eq_true_eq] at hgood
        have hst := Lib.hid (clauseI_before hlt hx hp1)
        have hz0 : (zs[k] == 0) = false := beq_eq_false_iff_ne.2 hgood.1
        have hz1 : decide (zs[k] < -vars) = false := decide_eq_false (by omega)
        have hz2 : decide (vars < zs[k]) = false := decide_eq_false (by omega)
        have hlo := hgood.2.1
        have hhi := hgood.2.2
        have hnext : Hid (beforeI zs (k + 1) = varI zs[k]) := by show _ = _; unfold beforeI; rw [prevI, List.getElem?_eq_getElem hlt]
        by_cases hs : zs[k] < -zs[k]
        · have hvs : Hid (varI zs[k] = -zs[k]) := by show _ = _; rw [hva, if_pos (by omega)]
          clear hx hva hw hgood hp1 hp2
          by_cases hbf : -zs[k] ≤ beforeI zs k
          · go_wp2_with (first | ((with_reducible refine w_ixI elI ?_ ?_ ?_ ?_ ?_ hv hlt ?_); (· rfl); (· exact fun _ => rfl); (· exact fun _ => rfl); (· rfl); (· rfl); intro _; simp only [Act.put, List.setIfInBounds_toArray, List.set_cons_succ, List.set_cons_zero]))
            go_ret
            exact ⟨ret_i (by rw [← hn.out, hst.out, hvs.out, if_pos hbf]), rfl⟩
          · go_wp2_with (first | ((with_reducible refine w_ixI elI ?_ ?_ ?_ ?_ ?_ hv hlt ?_); (· rfl); (· exact fun _ => rfl); (· exact fun _ => rfl); (· rfl); (· rfl); intro _; simp only [Act.put, List.setIfInBounds_toArray, List.set_cons_succ, List.set_cons_zero]))
            go_round
            case rel => exact ⟨k + 1, hlt, by go_num, by rw [hnext.out, hvs.out], by show _ = _; rw [← hn.out, hst.out, hvs.out, if_neg hbf]⟩
            case measure => simp [intOf]; omega
        · have hvs : Hid (varI zs[k] = zs[k]) := by show _ = _; rw [hva, if_neg (by omega)]
          clear hx hva hw hgood hp1 hp2
          by_cases hbf : zs[k] ≤ beforeI zs k
          · go_wp2_with (first | ((with_reducible refine w_ixI elI ?_ ?_ ?_ ?_ ?_ hv hlt ?_); (· rfl); (· exact fun _ => rfl); (· exact fun _ => rfl); (· rfl); (· rfl); intro _; simp only [Act.put, List.setIfInBounds_toArray, List.set_cons_succ, List.set_cons_zero]))
            go_ret
            exact ⟨ret_i (by rw [← hn.out, hst.out, hvs.out, if_pos hbf]), rfl⟩
          · go_wp2_with (first | ((with_reducible refine w_ixI elI ?_ ?_ ?_ ?_ ?_ hv hlt ?_); (· rfl); (· exact fun _ => rfl); (· exact fun _ => rfl); (· rfl); (· rfl); intro _; simp only [Act.put, List.setIfInBounds_toArray, List.set_cons_succ, List.set_cons_zero]))
            go_round
            case rel => exact ⟨k + 1, hlt, by go_num, by rw [hnext.out, hvs.out], by show _ = _; rw [← hn.out, hst.out, hvs.out, if_neg hbf]⟩
            case measure => simp [intOf]; omega
      · have hb := Lib.hid (clauseI_bad hlt hx)
        have hx' : zs[k] = 0 ∨ zs[k] < -vars ∨ vars < zs[k] := by unfold goodI at hx; rw [decide_eq_true_eq] at hx; omega
        clear hx
        go_wp2_with (first | ((with_reducible refine w_ixI elI ?_ ?_ ?_ ?_ ?_ hv hlt ?_); (· rfl); (· exact fun _ => rfl); (· exact fun _ => rfl); (· rfl); (· rfl); intro _; simp only [Act.put, List.setIfInBounds_toArray, List.set_cons_succ, List.set_cons_zero]))
        all_goals first | omega | skip
        all_goals go_ret
        all_goals exact ⟨ret_i (by rw [← hn.out, hb.out]), rfl⟩
    · obtain rfl : k = zs.length := by omega
      go_wp2
      go_ret
      exact ⟨ret_i (by rw [← hn.out, List.drop_length, clauseI]), rfl⟩

end Go.Proofs.Ytpiidgcljlalmaa
namespace Go.Proofs.Ytpiidgcljlalmaa
open Go.RowKit

def IRow (w : World) (b : Nat) (vals : List Int) : Prop := w.heap[b]? = some (.cells (vals.map (Value.int .i64)).toArray 3 (0, 0))

theorem IRow.cell {w : World} {b : Nat} {vals : List Int} (h : IRow w b vals) {k : Nat} (hk : k < vals.length) : w.cell? ⟨b, k, none⟩ = some (.int .i64 vals[k]) := by
  simp [World.cell?, show w.heap[b]? = _ from h, hk]
theorem IRow.frozen {w : World} {b : Nat} {vals : List Int} (h : IRow w b vals) (k : Nat) : w.frozen? ⟨b, k, none⟩ = false := by
  simp [World.frozen?, show w.heap[b]? = _ from h]
theorem IRow.arr {w : World} {b : Nat} {vals : List Int} {cap : Nat} (h : IRow w b vals) (h1 : vals.length ≤ cap) (h2 : cap ≤ maxLen) : Arr RI (fun k => k = b) w (.slice (some ⟨b, 0, none⟩) vals.length cap) vals :=
  ⟨_, _, rfl, h1, h2, fun k hk => ⟨_, b, 0, rfl, rfl, rfl, rfl, by rw [Nat.zero_add]; exact h.cell hk⟩⟩
theorem IRow.set {w : World} {b : Nat} {vals : List Int} (h : IRow w b vals) (k : Nat) (n : Int) : IRow (w.setCell ⟨b, k, none⟩ (.int .i64 n)) b (vals.set k n) := by
  have hg := show w.heap[b]? = _ from h
  show _ = _
  rw [setCell_eq_setRow w b k _ _ _ _ hg, setRow_heap w b _ _ _ _ hg]
  congr 2
  apply Array.ext'
  simp [List.map_set]
theorem IRow.below {w w' : World} {b B : Nat} {vals : List Int} (h : IRow w b vals) (e : Below B w w') (hb : b < B) : IRow w' b vals := (e.block b hb).trans h
theorem IRow.lt {w : World} {b : Nat} {vals : List Int} (h : IRow w b vals) : b < w.heap.size := (Array.getElem?_eq_some_iff.1 (show w.heap[b]? = _ from h)).1

section
variable {P : Program} {ops : Array Oper} {rest : List Oper} {o : Oper} {a : Act} {Q : Exit → Act → World → Prop} {w : World} {t e : TypeId} {z : Value}

theorem wpList_skip (hg : o.guard = none) {w' : World} (h : (execOp a.eval o).run P w = .ok .skip w') (hk : wpList P ops Q rest (a.put o.dst undef) w') : wpList P ops Q (o :: rest) a w :=
  wpList_plain hg fun K hK => by unfold Oper.wp; rw [h]; exact hK _ _ hk

theorem w_setI {x i y : Operand} {d : Tmp} {ty1 ty2 : TypeId} {ps1 ps2 : String} {af1 af2 : Array Edge} (E : ElT P t e 1 z 8 false)
    (hdl : ∀ p : Value, (a.put (some d) p).eval (.tmp d) = p) {b cap : Nat} {vals : List Int} (hx : a.eval x = .slice (some ⟨b, 0, none⟩) vals.length cap) (k : Nat) (j : Int) (hj : j = (k : Int)) (hi : a.eval i = .int .i64 j)
    {n : Int} (hy : ∀ p : Value, (a.put (some d) p).eval y = .int .i64 n) (hrow : IRow w b vals) (hk : k < vals.length)
    (h : ∀ p : Value, IRow (w.setCell ⟨b, k, none⟩ (.int .i64 n)) b (vals.set k n) → wpList P ops Q rest (a.put (some d) p) (w.setCell ⟨b, k, none⟩ (.int .i64 n))) :
    wpList P ops Q ({ dst := some d, op := .indexAddr t x i, type := ty1, pos := ps1, after := af1, guard := none } :: { dst := none, op := .store e (.tmp d) y, type := ty2, pos := ps2, after := af2, guard := none } :: rest) a w := by
  have hix := run_indexAt (w := w) E b 0 vals.length cap k .i64 hk
  rw [Nat.mul_one, Nat.zero_add] at hix
  refine wpList_value rfl (v := .pointer (some ⟨b, k, none⟩)) (w' := w) ?_ ?_
  · unfold execOp
    simp only [hx, hi, hj, Sem.run_bind, hix, Result.andThen_ok, Sem.run_pure]
  · refine wpList_skip rfl (w' := w.setCell ⟨b, k, none⟩ (.int .i64 n)) ?_ (h _ (hrow.set k n))
    have he := hdl (.pointer (some ⟨b, k, none⟩))
    have hy' := hy (.pointer (some ⟨b, k, none⟩))
    have hc := hrow.cell hk
    have hf := hrow.frozen k
    unfold execOp
    simp only [he, hy', Instr.storeAt, Instr.sureAddr, storeVar, Sem.run_bind, E.size, Result.andThen_ok, Sem.run_pure]
    have hst : (store ((⟨b, k, none⟩ : Addr).add 0) (.int .i64 n)).run P w = .ok () (w.setCell ⟨b, k, none⟩ (.int .i64 n)) := by
      rw [show ((⟨b, k, none⟩ : Addr).add 0) = ⟨b, k, none⟩ from rfl, run_store_int]
      simp [stored, hc, hf]
    simp [Value.cells, storeCells, hst]
end

def PS (bp b : Nat) (w : World) (vals : List Int) : Prop := bp ≠ b ∧ vals.length ≤ maxLen ∧ w.cell? ⟨bp, 0, none⟩ = some (.slice (some ⟨b, 0, none⟩) vals.length vals.length) ∧ IRow w b vals


set_option maxHeartbeats 1000000 in
theorem value_c {bp b : Nat} {w : World} {vals : List Int} {x : Int} (h : PS bp b w vals) (hi : x.natAbs < vals.length) (hv : ∀ v ∈ vals, -1 ≤ v ∧ v ≤ 1) :
    Calls Try.prog 110 #[.pointer (some ⟨bp, 0, none⟩), .int .i64 x] w fun e w' => e = .returned (.int .i64 (valI vals x)) ∧ w' = w := by
  obtain ⟨hne, hm, hc, hrow⟩ := h
  have harr := hrow.arr (Nat.le_refl _) hm
  have hle := harr.le
  by_cases hx : x < 0
  · have hk : (-x).toNat < vals.length := by omega
    have Hj : Hid (-x = (((-x).toNat : Nat) : Int)) := by show _ = _; omega
    obtain ⟨hv1, hv2⟩ := hv _ (List.getElem_mem hk)
    have hxr : -9223372036854775807 ≤ x := by omega
    have hres : Hid (valI vals x = -vals[(-x).toNat]) := by show _ = _; unfold valI; rw [if_pos hx, List.getD_eq_getElem?_getD, List.getElem?_eq_getElem hk]; rfl
    clear hv hi
    go_enter Try.func110, Try.ntmps110
    go_wp2_with (first | (((with_reducible refine w_ixJ elI ?_ ?_ ?_ (-x) Hj.out ?_ ?_ harr hk ?_); (· rfl); (· exact fun _ => rfl); (· exact fun _ => rfl); (· rfl); (· rfl); intro _ y hyy h1y; simp only [Act.put, List.setIfInBounds_toArray, List.set_cons_succ, List.set_cons_zero]); cases (show y = .int .i64 vals[(-x).toNat] from hyy)))
    go_ret
    exact ⟨ret_i (by rw [hres.out]), rfl⟩
  · have hk : x.toNat < vals.length := by omega
    have Hj : Hid (x = ((x.toNat : Nat) : Int)) := by show _ = _; omega
    have hres : Hid (valI vals x = vals[x.toNat]) := by show _ = _; unfold valI; rw [if_neg hx, List.getD_eq_getElem?_getD, List.getElem?_eq_getElem hk]; rfl
    clear hv hi
    go_enter Try.func110, Try.ntmps110
    go_wp2_with (first | (((with_reducible refine w_ixJ elI ?_ ?_ ?_ x Hj.out ?_ ?_ harr hk ?_); (· rfl); (· exact fun _ => rfl); (· exact fun _ => rfl); (· rfl); (· rfl); intro _ y hyy h1y; simp only [Act.put, List.setIfInBounds_toArray, List.set_cons_succ, List.set_cons_zero]); cases (show y = .int .i64 vals[x.toNat] from hyy)))
    go_ret
    exact ⟨ret_i (by rw [hres.out]), rfl⟩

set_option maxHeartbeats 1000000 in
theorem assign_c {bp b : Nat} {w : World} {vals : List Int} {x : Int} (h : PS bp b w vals) (hi : x.natAbs < vals.length) :
    Calls Try.prog 91 #[.pointer (some ⟨bp, 0, none⟩), .int .i64 x] w fun e w' => (∃ v, e = .returned v) ∧ PS bp b w' (setI vals x) ∧ ∃ k u, w' = w.setCell ⟨b, k, none⟩ u := by
  obtain ⟨hne, hm, hc, hrow⟩ := h
  have hle : (vals.length : Int) ≤ 9223372036854775807 := by simp only [maxLen] at hm; omega
  by_cases hx : x < 0
  · have hk : (-x).toNat < vals.length := by omega
    have Hj : Hid (-x = (((-x).toNat : Nat) : Int)) := by show _ = _; omega
    have hxr : -9223372036854775807 ≤ x := by omega
    have hres : Hid (setI vals x = vals.set (-x).toNat (-1)) := by show _ = _; unfold setI; rw [if_pos hx]
    clear hi
    go_enter Try.func91, Try.ntmps91
    go_wp2_with (first | ((with_reducible refine w_setI (cap := vals.length) (n := -1) elI ?_ ?_ (-x).toNat (-x) Hj.out ?_ ?_ hrow hk ?_); (· exact fun _ => rfl); (· rfl); (· rfl); (· exact fun _ => rfl); intro _ hrow2; simp only [Act.put, List.setIfInBounds_toArray, List.set_cons_succ, List.set_cons_zero]))
    go_end0
    refine ⟨⟨_, rfl⟩, ?_, _, _, rfl⟩
    rw [hres.out]
    refine ⟨hne, by rw [List.length_set]; exact hm, ?_, hrow2⟩
    rw [List.length_set, World.cell?_setCell_other (h := fun e => hne (congrArg Addr.block e).symm)]
    exact hc
  · have hk : x.toNat < vals.length := by omega
    have Hj : Hid (x = ((x.toNat : Nat) : Int)) := by show _ = _; omega
    have hres : Hid (setI vals x = vals.set x.toNat 1) := by show _ = _; unfold setI; rw [if_neg hx]
    clear hi
    go_enter Try.func91, Try.ntmps91
    go_wp2_with (first | ((with_reducible refine w_setI (cap := vals.length) (n := 1) elI ?_ ?_ x.toNat x Hj.out ?_ ?_ hrow hk ?_); (· exact fun _ => rfl); (· rfl); (· rfl); (· exact fun _ => rfl); intro _ hrow2; simp only [Act.put, List.setIfInBounds_toArray, List.set_cons_succ, List.set_cons_zero]))
    go_end0
    refine ⟨⟨_, rfl⟩, ?_, _, _, rfl⟩
    rw [hres.out]
    refine ⟨hne, by rw [List.length_set]; exact hm, ?_, hrow2⟩
    rw [List.length_set, World.cell?_setCell_other (h := fun e => hne (congrArg Addr.block e).symm)]
    exact hc

theorem unitI_step {vals : List Int} {c : List Int} {k : Nat} {o : Int} (h : k < c.length) : unitI vals o (c.drop k) = if 0 < valI vals c[k] ∨ (valI vals c[k] = 0 ∧ o ≠ 0) then (0, false) else if valI vals c[k] = 0 then unitI vals c[k] (c.drop (k + 1)) else unitI vals o (c.drop (k + 1)) := by
  rw [List.drop_eq_getElem_cons h, unitI]

set_option maxHeartbeats 2000000 in
theorem unit_c {bp b : Nat} {w : World} {vals : List Int} {P : Nat → Prop} {v : Value} {c : List Int} (h : PS bp b w vals) (hc : Ints P w v c) (hi : ∀ x ∈ c, x.natAbs < vals.length) (hv : ∀ v ∈ vals, -1 ≤ v ∧ v ≤ 1) :
    Calls Try.prog 105 #[.pointer (some ⟨bp, 0, none⟩), v] w fun e w' => e = .returned (.tuple #[.int .i64 (unitI vals 0 c).1, .bool (unitI vals 0 c).2]) ∧ w' = w := by
  have hle := hc.le
  have HI := Lib.hid hi
  have HV := Lib.hid hv
  clear hi hv
  go_enter Try.func105, Try.ntmps105
  go_wp2_with ((with_reducible refine w_len elI.und ?_ ?_ hc.len ?_); (· rfl); (· rfl); simp only [Act.put, List.setIfInBounds_toArray, List.set_cons_succ, List.set_cons_zero])
  go_loop [6, 12] (fun o i => ∃ (k : Nat) (q : Int), k ≤ c.length ∧ i = .int .i64 k ∧ o = .int .i64 q ∧ Hid (unitI vals q (c.drop k) = unitI vals 0 c)) (fun _ i => c.length - (intOf i).toNat)
  case atStart => exact ⟨0, 0, Nat.zero_le _, rfl, rfl, rfl⟩
  case round =>
    obtain ⟨k, q, hk, rfl, rfl, hn⟩ := hrel
    by_cases hlt : k < c.length
    · have hst := Lib.hid (unitI_step (vals := vals) (o := q) hlt)
      have hin := Lib.hid (HI.out _ (List.getElem_mem hlt))
      by_cases h1 : 0 < valI vals c[k]
      · go_wp2_with (first | ((with_reducible refine w_ixI elI ?_ ?_ ?_ ?_ ?_ hc hlt ?_); (· rfl); (· exact fun _ => rfl); (· exact fun _ => rfl); (· rfl); (· rfl); intro _; simp only [Act.put, List.setIfInBounds_toArray, List.set_cons_succ, List.set_cons_zero]) | (go_at_call 110; refine (value_c h hin.out HV.out).mono ?_; rintro e w1 ⟨rfl, rfl⟩))
        go_ret2
        have e : unitI vals 0 c = (0, false) := by rw [← hn.out, hst.out, if_pos (.inl h1)]
        exact ⟨by rw [e]; rfl, rfl⟩
      · by_cases h2 : valI vals c[k] = 0
        · have hb2 : (valI vals c[k] == 0) = true := by simp [h2]
          by_cases h3 : q = 0
          · have hb3 : (q != 0) = false := by simp [h3]
            have H2 := Lib.hid h2
            have H3 := Lib.hid h3
            clear h2 h3
            go_wp2_with (first | ((with_reducible refine w_ixI elI ?_ ?_ ?_ ?_ ?_ hc hlt ?_); (· rfl); (· exact fun _ => rfl); (· exact fun _ => rfl); (· rfl); (· rfl); intro _; simp only [Act.put, List.setIfInBounds_toArray, List.set_cons_succ, List.set_cons_zero]) | (go_at_call 110; refine (value_c h hin.out HV.out).mono ?_; rintro e w1 ⟨rfl, rfl⟩))
            go_round
            case rel => exact ⟨k + 1, c[k], hlt, by go_num, rfl, by show _ = _; rw [← hn.out, hst.out, if_neg (by rintro (h | ⟨_, h⟩); omega; exact h H3.out), if_pos H2.out]⟩
            case measure => simp [intOf]; omega
          · have hb3 : (q != 0) = true := by simp [h3]
            have H2 := Lib.hid h2
            have H3 := Lib.hid h3
            clear h2 h3
            go_wp2_with (first | ((with_reducible refine w_ixI elI ?_ ?_ ?_ ?_ ?_ hc hlt ?_); (· rfl); (· exact fun _ => rfl); (· exact fun _ => rfl); (· rfl); (· rfl); intro _; simp only [Act.put, List.setIfInBounds_toArray, List.set_cons_succ, List.set_cons_zero]) | (go_at_call 110; refine (value_c h hin.out HV.out).mono ?_; rintro e w1 ⟨rfl, rfl⟩))
            go_ret2
            have e : unitI vals 0 c = (0, false) := by rw [← hn.out, hst.out, if_pos (.inr ⟨H2.out, H3.out⟩)]
            exact ⟨by rw [e]; rfl, rfl⟩
        · have hb2 : (valI vals c[k] == 0) = false := by simp [h2]
          have H2 := Lib.hid h2
          clear h2
          go_wp2_with (first | ((with_reducible refine w_ixI elI ?_ ?_ ?_ ?_ ?_ hc hlt ?_); (· rfl); (· exact fun _ => rfl); (· exact fun _ => rfl); (· rfl); (· rfl); intro _; simp only [Act.put, List.setIfInBounds_toArray, List.set_cons_succ, List.set_cons_zero]) | (go_at_call 110; refine (value_c h hin.out HV.out).mono ?_; rintro e w1 ⟨rfl, rfl⟩))
          go_round
          case rel => exact ⟨k + 1, q, hlt, by go_num, rfl, by show _ = _; rw [← hn.out, hst.out, if_neg (by rintro (h | ⟨h, _⟩); omega; exact H2.out h), if_neg H2.out]⟩
          case measure => simp [intOf]; omega
    · obtain rfl : k = c.length := by omega
      have e : unitI vals 0 c = (q, decide (q = 0)) := by rw [← hn.out, List.drop_length, unitI]
      have He := Lib.hid e
      clear e
      go_wp2
      go_ret2
      refine ⟨?_, rfl⟩
      rw [He.out]
      rfl

end Go.Proofs.Ytpiidgcljlalmaa
