/-
  The prover's conflict: passes over all clauses, a range over a function inside a loop.
-/
import Derived.Test.YtjifihfkoflbiaaIter
namespace Go.Proofs.Ytjifihfkoflbiaa
open Go.RowKit Go.Shelf

attribute [local go_sem] Oper.semAt_some

theorem passF_append : ∀ (l r : List (List Int)) (vals : List Int) (ch : Bool), passF (l ++ r) vals ch = (passF l vals ch).bind fun p => passF r p.1 p.2
  | [], _, _, _ => rfl
  | c :: l, r, vals, ch => by
    simp only [List.cons_append, passF]
    split
    · rfl
    · split
      · exact passF_append l r _ _
      · exact passF_append l r _ _

/-- the marks of ranges over functions on a frame's deferred calls -/
def marks (Ds : List Nat) : List Deferred := Ds.map fun D => { target := .collected D, args := #[] }

/-- such marks are taken up, one after the other, when the function leaves -/
theorem leaves_marks {F : Fence} {n : Nat} {P : Program} {fn : Func} {tmps : Array Value} {R : Ending → World → Prop} : ∀ (Ds : List Nat) (W : World), Ds.Nodup → (∀ D ∈ Ds, W.heap[D]? = some (.deferred (some []))) →
    (∀ W', (∀ k, k ∉ Ds → W'.heap[k]? = W.heap[k]?) → W'.heap.size = W.heap.size → W'.os = W.os → W'.tape = W.tape → W'.output = W.output → LeavesIn F n P fn tmps R [] .returning W') → LeavesInM F n P fn tmps R (marks Ds) .returning W
  | [], W, _, _, h => h W (fun _ _ => rfl) rfl rfl rfl rfl
  | D :: Ds, W, hnd, hD, h => by
    have hd := hD D (by simp)
    refine ⟨by simp, .inl ⟨_, _, rfl, run_takeDeferred hd, ?_⟩⟩
    have hnd' := List.nodup_cons.1 hnd
    refine leaves_marks Ds _ hnd'.2 (fun E hE => ?_) (fun W' h1 h2 h3 h4 h5 => ?_)
    · have hne : E ≠ D := fun e => hnd'.1 (e ▸ hE)
      exact (World.putObj_heap_other hne).trans (hD E (by simp [hE]))
    · refine h W' (fun k hk => ?_) (h2.trans (by simp)) h3 h4 h5
      simp only [List.mem_cons, not_or] at hk
      exact (h1 k hk.2).trans (World.putObj_heap_other hk.1)

/-- a clause that lies where it lay: its value and its literals, all of which have values -/
abbrev CL (w : World) (b m : Nat) : Type := { x : Value × List Int // Ints (fun k => k < w.heap.size ∧ k ≠ b) w x.1 x.2 ∧ ∀ y ∈ x.2, y.natAbs < m }
abbrev CL.val {w : World} {b m : Nat} (x : CL w b m) : Value := x.1.1
abbrev CL.lits {w : World} {b m : Nat} (x : CL w b m) : List Int := x.1.2

/-- where the prover stands -/
structure CI (bp b Bp Br Bc : Nat) (w W : World) (vals : List Int) (ch : Bool) : Prop where
  ps : PS bp b W vals
  p : Boxed W Bp 86 (.pointer (some ⟨bp, 0, none⟩))
  r : Boxed W Br 4 (.bool false)
  c : Boxed W Bc 4 (.bool ch)
  g : w.grownBy W (some b)

/-- how many ints of a block are 0 -/
def zerosOf : Option Obj → Nat
  | some (.cells cs _ _) => cs.toList.countP fun v => match v with | .int _ n => decide (n = 0) | _ => false
  | _ => 0
theorem zerosOf_row {w : World} {b : Nat} {vals : List Int} (h : IRow w b vals) : zerosOf w.heap[b]? = vals.count 0 := by
  rw [show w.heap[b]? = _ from h]
  simp only [zerosOf, List.countP_map, List.count]
  congr 1
/-- a bool of a block -/
def flagOf : Option Obj → Nat
  | some (.cells cs _ _) => match cs.toList with | [.bool true] => 1 | _ => 0
  | _ => 0
def slotBlock (a : Act) : Nat := match a.tmps.getD 5 undef with | .pointer (some p) => p.block | _ => 0
def muC (b : Nat) (a : Act) (W : World) : Nat := 2 * zerosOf W.heap[b]? + flagOf W.heap[slotBlock a]?
theorem flagOf_boxed {W : World} {B : Nat} {t : TypeId} {ch : Bool} (h : Boxed W B t (.bool ch)) : flagOf W.heap[B]? = if ch = true then 1 else 0 := by
  rw [show W.heap[B]? = _ from h]
  cases ch <;> rfl

/-- the frame between two passes -/
abbrev frC (bp Bu Bv H Bc : Nat) (v9 v10 v24 : Value) (Ds : List Nat) : Act :=
  { tmps := #[.pointer (some ⟨bp, 0, none⟩), .func (.func 65) #[] #[.pointer (some ⟨Bu, 0, none⟩), .pointer (some ⟨Bv, 0, none⟩)], .pointer (some ⟨H, 0, none⟩), undef, .pointer (some ⟨H + 1, 0, none⟩), .pointer (some ⟨Bc, 0, none⟩),
      undef, undef, undef, v9, v10, undef, undef, undef, undef, undef, undef, undef, undef, undef, undef, undef, undef, undef, v24], defers := marks Ds }

/-- between two passes -/
def CInv (bp b m Bu Bv : Nat) (w : World) (L : List (List Int)) (vals : List Int) (a : Act) (W : World) : Prop :=
  ∃ (Bc : Nat) (v9 v10 v24 : Value) (Ds : List Nat) (vs : List Int) (ch : Bool), a = frC bp Bu Bv w.heap.size Bc v9 v10 v24 Ds ∧ CI bp b w.heap.size (w.heap.size + 1) Bc w W vs ch ∧ w.heap.size + 2 ≤ Bc ∧ Ds.Nodup ∧ (∀ D ∈ Ds, w.heap.size ≤ D ∧ W.heap[D]? = some (.deferred (some []))) ∧
    vs.length = m ∧ Signs vs ∧ conflictI L vals = (if ch = true then conflictI L vs else false)

theorem grown_kept {b : Nat} {w W W' : World} {row : Option Nat} (h : w.grownBy W (some b)) (hg : W.grownBy W' row) (hr : ∀ r, row = some r → w.heap.size ≤ r) : w.grownBy W' (some b) :=
  ⟨hg.os.trans h.os, hg.tape.trans h.tape, hg.output.trans h.output, Nat.le_trans h.size hg.size, fun k hk hne => (hg.block k (Nat.lt_of_lt_of_le hk h.size) (fun e => absurd (hr k e.symm) (Nat.not_le.2 hk))).trans (h.block k hk hne)⟩
theorem CI.kept {bp b Bp Br Bc : Nat} {w W W' : World} {vs : List Int} {ch : Bool} {row : Option Nat} (h : CI bp b Bp Br Bc w W vs ch) (hg : W.grownBy W' row) (hr : ∀ r, row = some r → w.heap.size ≤ r ∧ ∃ o : Obj, W.heap[r]? = some o ∧ o.isCells = false) : CI bp b Bp Br Bc w W' vs ch := by
  have hr' : ∀ r, row = some r → ∃ o : Obj, W.heap[r]? = some o ∧ o.isCells = false := fun r e => (hr r e).2
  refine ⟨⟨h.ps.1, h.ps.2.1, cell_kept h.ps.2.2.1 hg hr', (grownBy_keeps_cells hg hr' h.ps.2.2.2 rfl).trans h.ps.2.2.2⟩, (grownBy_keeps_cells hg hr' h.p rfl).trans h.p, (grownBy_keeps_cells hg hr' h.r rfl).trans h.r, (grownBy_keeps_cells hg hr' h.c rfl).trans h.c, ?_⟩
  exact ⟨hg.os.trans h.g.os, hg.tape.trans h.g.tape, hg.output.trans h.g.output, Nat.le_trans h.g.size hg.size, fun k hk hne => (hg.block k (Nat.lt_of_lt_of_le hk h.g.size) (fun e => absurd (hr k e.symm).1 (Nat.not_le.2 hk))).trans (h.g.block k hk hne)⟩

theorem muC_eq {bp b Bp Br Bc : Nat} {w W : World} {vs : List Int} {ch : Bool} {a : Act} (h : CI bp b Bp Br Bc w W vs ch) (ha : slotBlock a = Bc) : muC b a W = 2 * vs.count 0 + (if ch = true then 1 else 0) := by
  unfold muC
  rw [zerosOf_row h.ps.2.2.2, ha, flagOf_boxed h.c]
theorem grown_set {b : Nat} {w W : World} (h : w.grownBy W (some b)) {p : Addr} (hp : w.heap.size ≤ p.block ∨ p.block = b) (v : Value) : w.grownBy (W.setCell p v) (some b) :=
  ⟨h.os, h.tape, h.output, Nat.le_trans h.size (KeepsOthers.setCell W p v).size, fun k hk hne => (Below.heap_setCell W p v k (by intro e; rcases hp with hp | hp; omega; exact hne (by rw [e, hp]))).trans (h.block k hk hne)⟩
theorem KeepsBut.set {bad : Nat → Prop} (W : World) (p : Addr) (v : Value) (hp : bad p.block) : KeepsBut bad W (W.setCell p v) :=
  ⟨(KeepsOthers.setCell W p v).size, fun k o hb hk _ => (Below.heap_setCell W p v k (fun e => hb (e ▸ hp))).trans hk⟩
theorem CI.setC {bp b H Bc : Nat} {w W : World} {vs : List Int} {ch : Bool} (h : CI bp b H (H + 1) Bc w W vs ch) (hH : H = w.heap.size) (hb : b < H) (hbp : bp < H) (hBc : H + 2 ≤ Bc) (ch' : Bool) : CI bp b H (H + 1) Bc w (W.setCell ⟨Bc, 0, none⟩ (.bool ch')) vs ch' := by
  have hst : ∀ k, k ≠ Bc → (W.setCell ⟨Bc, 0, none⟩ (.bool ch')).heap[k]? = W.heap[k]? := fun k hk => Below.heap_setCell W ⟨Bc, 0, none⟩ _ k hk
  exact ⟨⟨h.ps.1, h.ps.2.1, (World.cell?_of_block (hst bp (by omega))).trans h.ps.2.2.1, (hst b (by omega)).trans h.ps.2.2.2⟩, (hst _ (by omega)).trans h.p, (hst _ (by omega)).trans h.r, h.c.set _, grown_set h.g (.inl (by show w.heap.size ≤ Bc; omega)) _⟩
theorem CI.setB {bp b H Bc : Nat} {w W : World} {vs vs' : List Int} {ch : Bool} (h : CI bp b H (H + 1) Bc w W vs ch) (hH : H = w.heap.size) (hb : b < H) (hBc : H + 2 ≤ Bc) {k : Nat} {u : Value} (hps : PS bp b (W.setCell ⟨b, k, none⟩ u) vs') : CI bp b H (H + 1) Bc w (W.setCell ⟨b, k, none⟩ u) vs' ch := by
  have hst : ∀ j, j ≠ b → (W.setCell ⟨b, k, none⟩ u).heap[j]? = W.heap[j]? := fun j hj => Below.heap_setCell W ⟨b, k, none⟩ _ j hj
  exact ⟨hps, (hst _ (by omega)).trans h.p, (hst _ (by omega)).trans h.r, (hst _ (by omega)).trans h.c, grown_set h.g (.inr rfl) _⟩

theorem leave_conflict {F : Fence} {n : Nat} {b H1 : Nat} {w W : World} {Ds : List Nat} {tmps : Array Value} {r : Bool} {R : Ending → World → Prop} (h4 : tmps.getD 4 undef = .pointer (some ⟨H1, 0, none⟩)) (hr : Boxed W H1 4 (.bool r))
    (hnd : Ds.Nodup) (hDs : ∀ D ∈ Ds, w.heap.size ≤ D ∧ W.heap[D]? = some (.deferred (some []))) (hg : w.grownBy W (some b)) (hR : ∀ W', w.grownBy W' (some b) → R (.returned (.bool r)) W') :
    LeavesInM F n Try.prog Try.f64 tmps R (marks Ds) .returning W := by
  refine leaves_marks Ds W hnd (fun D hD => (hDs D hD).2) (fun W' h1 h2 h3 h5 h6 => ?_)
  have hH : H1 ∉ Ds := fun hc => by
    have := (hDs _ hc).2
    rw [show W.heap[H1]? = _ from hr] at this
    cases this
  have hb : Boxed W' H1 4 (.bool r) := (h1 _ hH).trans hr
  have hc5 := hb.cell
  refine ⟨.bool r, ?_, hR W' ⟨h3.trans hg.os, h5.trans hg.tape, h6.trans hg.output, by rw [h2]; exact hg.size, fun k hk hne => ?_⟩⟩
  · have h4' : tmps[4]?.getD undef = .pointer (some ⟨H1, 0, none⟩) := by simpa using h4
    simp [results, Try.f64, go_sem, h4', hc5]
  · exact (h1 k (fun hc => absurd (hDs _ hc).1 (by omega))).trans (hg.block k hk hne)

set_option maxRecDepth 100000 in
set_option maxHeartbeats 4000000 in
theorem conflict_c {bp b m : Nat} {w : World} {vals : List Int} (hps : PS bp b w vals) (hm : vals.length = m) (hsg : Signs vals) (hb : b < w.heap.size) (hbp : bp < w.heap.size) (Bu Bv : Nat) (xs ys : List (CL w b m)) (u v : Value)
    (hBu : w.cell? ⟨Bu, 0, none⟩ = some u) (hBv : w.cell? ⟨Bv, 0, none⟩ = some v) (hBub : Bu ≠ b) (hBvb : Bv ≠ b)
    (hu : Arr RW (fun k => k < w.heap.size ∧ k ≠ b) w u (xs.map CL.val)) (hv : Arr RW (fun k => k < w.heap.size ∧ k ≠ b) w v (ys.map CL.val)) :
    Calls Try.prog 64 #[.pointer (some ⟨bp, 0, none⟩), .func (.func 65) #[] #[.pointer (some ⟨Bu, 0, none⟩), .pointer (some ⟨Bv, 0, none⟩)]] w
      fun e W' => e = .returned (.bool (conflictI ((xs ++ ys).map CL.lits) vals)) ∧ w.grownBy W' (some b) := by
  obtain ⟨L, hLdef⟩ : ∃ L, (xs ++ ys).map CL.lits = L := ⟨_, rfl⟩
  rw [hLdef]
  have HL := Lib.hid hLdef
  clear hLdef
  refine (callsIn_wide (n := 9)).1 ?_
  refine callsIn_of_wp_marks Try.func64 rfl trivial ?_ rfl
  simp only [Try.ntmps64, List.size_toArray, List.length_cons, List.length_nil, Nat.reduceAdd, Nat.reduceSub, Array.replicate_succ, Array.replicate_zero, List.push_toArray, List.append_toArray, List.nil_append, List.cons_append]
  have b1 := Boxed.new w 86 (.pointer (some ⟨bp, 0, none⟩))
  have b2 := Boxed.new (w.alloc (.cells #[.pointer (some ⟨bp, 0, none⟩)] 86)) 4 (.bool false)
  have b3 := Boxed.new ((w.alloc (.cells #[.pointer (some ⟨bp, 0, none⟩)] 86)).alloc (.cells #[.bool false] 4)) 4 (.bool true)
  simp only [World.size_alloc] at b2 b3
  have hg0 : w.grownBy (((w.alloc (.cells #[.pointer (some ⟨bp, 0, none⟩)] 86)).alloc (.cells #[.bool false] 4)).alloc (.cells #[.bool true] 4)) (some b) :=
    ((World.grownBy_alloc w _ _).trans (World.grownBy_alloc _ _ _)).trans (World.grownBy_alloc _ _ _)
  have hps0 : PS bp b (((w.alloc (.cells #[.pointer (some ⟨bp, 0, none⟩)] 86)).alloc (.cells #[.bool false] 4)).alloc (.cells #[.bool true] 4)) vals := by
    have e : Ext w (((w.alloc (.cells #[.pointer (some ⟨bp, 0, none⟩)] 86)).alloc (.cells #[.bool false] 4)).alloc (.cells #[.bool true] 4)) := (((Ext.refl w).alloc _).alloc _).alloc _
    exact ⟨hps.1, hps.2.1, e.cell hps.2.2.1, hps.2.2.2.below e hb⟩
  gi_wp2
  refine wpIn_loop (CInv bp b m Bu Bv w L vals) (muC b) ⟨w.heap.size + 1 + 1, undef, undef, undef, [], vals, true, rfl, ⟨hps0, (b1.alloc _).alloc _, b2.alloc _, b3, hg0⟩, Nat.le_refl _, List.nodup_nil, by simp, hm, hsg, rfl⟩ ?_
  clear b1 b2 b3 hg0 hps0
  rintro _ W ⟨Bc, v9, v10, v24, Ds, vs, ch, rfl, hci, hBc, hnd, hDs, hvm, hvs, hcf⟩
  have hmu : muC b (frC bp Bu Bv w.heap.size Bc v9 v10 v24 Ds) W = 2 * vs.count 0 + (if ch = true then 1 else 0) := by
    unfold muC
    rw [zerosOf_row hci.ps.2.2.2, show slotBlock (frC bp Bu Bv w.heap.size Bc v9 v10 v24 Ds) = Bc from rfl, flagOf_boxed hci.c]
  rw [hmu]
  have hc1 := hci.c.cell
  cases ch with
  | false =>
    clear hmu
    have hcr := hci.r.cell
    have hfr := hci.r.frozen
    have hkp := KeepsOthers.setCell W ⟨w.heap.size + 1, 0, none⟩ (.bool false)
    have hg2 : w.grownBy (W.setCell ⟨w.heap.size + 1, 0, none⟩ (.bool false)) (some b) :=
      ⟨hci.g.os, hci.g.tape, hci.g.output, Nat.le_trans hci.g.size hkp.size, fun k hk hne => (Below.heap_setCell W _ _ k (by show k ≠ w.heap.size + 1; omega)).trans (hci.g.block k hk hne)⟩
    have hbr := hci.r.set (.bool false)
    have Hcf := Lib.hid hcf
    clear hcf
    gi_wp2
    exact leave_conflict rfl hbr hnd (fun D hD => ⟨(hDs D hD).1, hkp.same D _ (hDs D hD).2 rfl⟩) hg2 (fun W' hW' => ⟨by rw [Hcf.out]; rfl, hW'⟩)
  | true =>
    have hfc := hci.c.frozen
    have hbo : Bc ≠ b := by omega
    have hkp := KeepsOthers.setCell W ⟨Bc, 0, none⟩ (.bool false)
    have hst : ∀ k, k ≠ Bc → (W.setCell ⟨Bc, 0, none⟩ (.bool false)).heap[k]? = W.heap[k]? := fun k hk => Below.heap_setCell W ⟨Bc, 0, none⟩ _ k hk
    have hci1 : CI bp b w.heap.size (w.heap.size + 1) Bc w (W.setCell ⟨Bc, 0, none⟩ (.bool false)) vs false :=
      ⟨⟨hci.ps.1, hci.ps.2.1, (World.cell?_of_block (hst bp (by omega))).trans hci.ps.2.2.1, (hst b (by omega)).trans hci.ps.2.2.2⟩, (hst _ (by omega)).trans hci.p, (hst _ (by omega)).trans hci.r, hci.c.set _,
        ⟨hci.g.os, hci.g.tape, hci.g.output, Nat.le_trans hci.g.size hkp.size, fun k hk hne => (hst k (by omega)).trans (hci.g.block k hk hne)⟩⟩
    have hDs1 : ∀ D ∈ Ds, w.heap.size ≤ D ∧ (W.setCell ⟨Bc, 0, none⟩ (.bool false)).heap[D]? = some (.deferred (some [])) := fun D hD => ⟨(hDs D hD).1, hkp.same D _ (hDs D hD).2 rfl⟩
    have Hcf := Lib.hid hcf
    clear hcf hmu
    gi_wp2
    obtain ⟨W1, hW1⟩ : ∃ W1, W.setCell ⟨Bc, 0, none⟩ (.bool false) = W1 := ⟨_, rfl⟩
    rw [hW1] at hci1 hDs1 ⊢
    have hsz : w.heap.size + 2 ≤ W1.heap.size ∧ Bc < W1.heap.size := by
      have h2 := hci1.c.lt
      exact ⟨by omega, h2⟩
    have hin : InR m L := by
      intro c hc y hy
      rw [← HL.out] at hc
      obtain ⟨x, _, rfl⟩ := List.mem_map.1 hc
      exact x.2.2 y hy
    have hcls : ∀ {W2 : World}, w.grownBy W2 (some b) → ∀ x : CL w b m, Ints (fun k => k < w.heap.size ∧ k ≠ b) W2 x.val x.lits := fun hg x => Good.move (R := Ints) x.2.1 (fun k hk hlt => hg.block k hlt (by intro e; cases e; exact hk.2 rfl))
    have hbu := lt_of_cell hBu
    have hbv := lt_of_cell hBv
    refine wpIn_rangeFunc_ownG (w0 := W1) rfl (by omega) (gf := 65) (lb := #[.pointer (some ⟨Bu, 0, none⟩), .pointer (some ⟨Bv, 0, none⟩)]) rfl trivial (enters_of Try.func65 (by kernel_rfl) rfl)
      (both_stops (CL.val (w := w) (b := b) (m := m)) Fence.wide (9 - 1) trivial rfl (by omega) Bu Bv (fun k => k = b ∨ k = w.heap.size + 1 ∨ k = Bc) xs ys u v W1
        (by rintro k (rfl | rfl | rfl) <;> omega)
        ((World.cell?_of_block (hci1.g.block Bu hbu (by simpa using hBub))).trans hBu) ((World.cell?_of_block (hci1.g.block Bv hbv (by simpa using hBvb))).trans hBv)
        (Good.weak (R := Arr RW) (Good.move (R := Arr RW) hu (fun k hk hlt => hci1.g.block k hlt (by simpa using hk.2))) (fun k hk => by rintro (h | h | h) <;> omega))
        (Good.weak (R := Arr RW) (Good.move (R := Arr RW) hv (fun k hk hlt => hci1.g.block k hlt (by simpa using hk.2))) (fun k hk => by rintro (h | h | h) <;> omega)))
      (fun h k => KeepsBut.trans h k) (fun W l o o' _ hl hc _ => KeepsBut.putObj W l o o' hl hc) (Below.refl _ _) (fun _ => rfl)
      (fun pre W2 => (∃ vs' ch', passF (pre.map CL.lits) vs false = some (vs', ch') ∧ CI bp b w.heap.size (w.heap.size + 1) Bc w W2 vs' ch' ∧ vs'.length = m ∧ Signs vs') ∧ (∀ D ∈ Ds, W2.heap[D]? = some (.deferred (some []))) ∧ W1.heap.size ≤ W2.heap.size)
      (fun c pre W2 => c = .ret ∧ passF (pre.map CL.lits) vs false = none ∧ Boxed W2 (w.heap.size + 1) 4 (.bool true) ∧ w.grownBy W2 (some b) ∧ (∀ D ∈ Ds, W2.heap[D]? = some (.deferred (some []))))
      ?hI ?hIx ?h0
      (fun x => { tmps := #[.pointer (some ⟨bp, 0, none⟩), .func (.func 65) #[] #[.pointer (some ⟨Bu, 0, none⟩), .pointer (some ⟨Bv, 0, none⟩)], .pointer (some ⟨w.heap.size, 0, none⟩), undef, .pointer (some ⟨w.heap.size + 1, 0, none⟩), .pointer (some ⟨Bc, 0, none⟩),
        CL.val x, undef, undef, .bool true, .func (.func 65) #[] #[.pointer (some ⟨Bu, 0, none⟩), .pointer (some ⟨Bv, 0, none⟩)], CL.val x, undef, undef, undef, undef, undef, undef, undef, undef, undef, undef, undef, undef, v24], defers := [] }) ?assign ?body ?done ?stop
    case hI =>
      rintro pre A B row ⟨⟨vs', ch', h1, h2, h3, h4⟩, h5, h6⟩ hg hr
      refine ⟨⟨vs', ch', h1, h2.kept hg (fun r e => ⟨by have := (hr r e).1; omega, (hr r e).2⟩), h3, h4⟩, fun D hD => ?_, Nat.le_trans h6 hg.size⟩
      have hl1 := (Array.getElem?_eq_some_iff.1 (hDs1 D hD).2).1
      exact (hg.block D (Array.getElem?_eq_some_iff.1 (h5 D hD)).1 (fun e => absurd (hr D e.symm).1 (by omega))).trans (h5 D hD)
    case hIx =>
      rintro c pre A B row ⟨h1, h2, h3, h4, h5⟩ hg hr
      refine ⟨h1, h2, (grownBy_keeps_cells hg (fun r e => (hr r e).2) h3 rfl).trans h3, grown_kept h4 hg (fun r e => by have := (hr r e).1; omega), fun D hD => ?_⟩
      have hl1 := (Array.getElem?_eq_some_iff.1 (hDs1 D hD).2).1
      exact (hg.block D (Array.getElem?_eq_some_iff.1 (h5 D hD)).1 (fun e => absurd (hr D e.symm).1 (by omega))).trans (h5 D hD)
    case h0 => exact ⟨⟨vs, false, rfl, hci1, hvm, hvs⟩, fun D hD => (hDs1 D hD).2, Nat.le_refl _⟩
    case assign =>
      intro l x W K hK
      gi_wp2
      exact hK
    case body =>
      rintro l pre x W2 ⟨⟨vs', ch', hp, hci2, hl2, hs2⟩, hD2, hsz2⟩ hlen
      have hx := hcls hci2.g x
      obtain ⟨⟨q, br⟩, hun⟩ : ∃ r, unitI vs' 0 (CL.lits x) = r := ⟨_, rfl⟩
      have hstep : passF ((pre ++ [x]).map CL.lits) vs false = if br = true then none else if q ≠ 0 then some (setI vs' q, true) else some (vs', ch') := by
        rw [List.map_append, passF_append, hp]
        show passF [CL.lits x] vs' ch' = _
        simp only [passF, hun]
      have hU := unit_c hci2.ps hx (fun y hy => by rw [hl2]; exact x.2.2 y hy) hs2
      rw [hun] at hU
      have hcp := hci2.p.cell
      have hcr := hci2.r.cell
      have hfr := hci2.r.frozen
      have hcc := hci2.c.cell
      have hfcc := hci2.c.frozen
      have Hstep := Lib.hid hstep
      have Hun := Lib.hid hun
      clear hstep hun hp hDs1 hDs hcls hin
      cases br with
      | true =>
        gi_wp2_with (refine ⟨trivial, ?_⟩; gi_at_call 69; refine (CallsIn.inRound l (callsIn_wide.2 hU)).mono ?_; rintro e w3 ⟨rfl, rfl⟩)
        exact ⟨(KeepsOthers.setCell _ _ _).from _, rfl, by rw [Hstep.out]; rfl, hci2.r.set _, grown_set hci2.g (.inl (Nat.le_succ _)) _, fun D hD => (KeepsOthers.setCell _ _ _).same D _ (hD2 D hD) rfl⟩
      | false =>
        by_cases hq : q = 0
        · have hbq : (q != 0) = false := by simp [hq]
          have Hq := Lib.hid hq
          clear hq
          gi_wp2_with (refine ⟨trivial, ?_⟩; gi_at_call 69; refine (CallsIn.inRound l (callsIn_wide.2 hU)).mono ?_; rintro e w3 ⟨rfl, rfl⟩)
          exact ⟨KeepsFrom.refl _ _, KeepsBut.refl _ _, ⟨vs', ch', by rw [Hstep.out]; simp [Hq.out], hci2, hl2, hs2⟩, hD2, hsz2⟩
        · have hbq : (q != 0) = true := by simp [hq]
          have hqm : q ∈ CL.lits x := by
            have := unitI_mem (vals := vs') (c := CL.lits x) (by rw [Hun.out]; exact hq)
            rw [Hun.out] at this; exact this.1
          have hA := assign_c hci2.ps (x := q) (by rw [hl2]; exact x.2.2 q hqm)
          have Hq := Lib.hid hq
          clear hq hqm
          gi_wp2_with (first | (refine ⟨trivial, ?_⟩; gi_at_call 69; refine (CallsIn.inRound l (callsIn_wide.2 hU)).mono ?_; rintro e w3 ⟨rfl, rfl⟩) | (refine ⟨trivial, ?_⟩; gi_at_call 63; refine (CallsIn.inRound l (callsIn_wide.2 hA)).mono ?_; rintro e w4 ⟨⟨r, rfl⟩, hps4, k4, u4, rfl⟩; have hci4 := hci2.setB rfl hb hBc hps4; have hcc4 := hci4.c.cell; have hfcc4 := hci4.c.frozen))
          refine ⟨((KeepsOthers.setCell _ _ _).trans (KeepsOthers.setCell _ _ _)).from _, KeepsBut.trans (KeepsBut.set _ _ _ (.inl rfl)) (KeepsBut.set _ _ _ (.inr (.inr rfl))), ⟨setI vs' q, true, ?_, hci4.setC rfl hb hbp hBc true, by rw [setI_length]; exact hl2, setI_signs hs2 _⟩, fun D hD => ?_, ?_⟩
          · rw [Hstep.out]; simp [Hq.out]
          · exact ((KeepsOthers.setCell _ _ _).trans (KeepsOthers.setCell _ _ _)).same D _ (hD2 D hD) rfl
          · exact Nat.le_trans hsz2 ((KeepsOthers.setCell _ _ _).trans (KeepsOthers.setCell _ _ _)).size
    case done =>
      rintro D zs W2 hD rfl ⟨⟨vs', ch', hp, hci2, hl2, hs2⟩, hD2, hsz2⟩ hK
      have hcc := hci2.c.cell
      have hL : Hid (conflictI L vals = if ch' = true then conflictI L vs' else false) := by
        show _ = _
        have e := Hcf.out
        simp only [if_true] at e
        rw [HL.out] at hp
        rw [e, conflictI_step (by rw [hvm]; exact hin), hp]
        cases ch' <;> rfl
      have hcnt : Hid (2 * vs'.count 0 + (if ch' = true then 1 else 0) < 2 * vs.count 0 + 1) := by
        show _ < _
        rw [HL.out] at hp
        obtain ⟨_, e2, e3, _⟩ := passF_some (by rw [hvm]; exact hin) hp
        cases ch' with
        | true => have := (e3 rfl).resolve_left (by simp); simp; omega
        | false => simp; omega
      clear hp Hcf hcls hin
      gi_wp2
      have hk3 := hci2.kept (World.grownBy_alloc W2 (.cells #[.bool ch'] 4) none) (fun r e => by cases e)
      have hci3 : CI bp b w.heap.size (w.heap.size + 1) W2.heap.size w (W2.alloc (.cells #[.bool ch'] 4)) vs' ch' := ⟨hk3.ps, hk3.p, hk3.r, Boxed.new W2 _ _, hk3.g⟩
      refine ⟨⟨W2.heap.size, _, _, _, D :: Ds, vs', ch', rfl, hci3, by omega, List.nodup_cons.2 ⟨fun hc => ?_, hnd⟩, fun E hE => ?_, hl2, hs2, hL.out⟩, ?_⟩
      · have := (Array.getElem?_eq_some_iff.1 (hDs1 D hc).2).1
        omega
      · have key : w.heap.size ≤ E ∧ W2.heap[E]? = some (.deferred (some [])) := by
          rcases List.mem_cons.1 hE with rfl | hE
          · exact ⟨by omega, hK⟩
          · exact ⟨(hDs1 E hE).1, hD2 E hE⟩
        exact ⟨key.1, (Below.heap_alloc W2 _ E (Array.getElem?_eq_some_iff.1 key.2).1).trans key.2⟩
      · rw [muC_eq hci3 rfl]
        exact hcnt.out
    case stop =>
      rintro D c pre W2 hD ⟨rest, hpre⟩ ⟨rfl, hpn, hbr, hg2, hD2⟩ hK
      have hL : Hid (conflictI L vals = true) := by
        show _ = _
        have e := Hcf.out
        simp only [if_true] at e
        rw [e, conflictI_step (by rw [hvm]; exact hin), ← HL.out, ← hpre, List.map_append, passF_append, hpn]
        rfl
      clear hpn Hcf hcls hin
      gi_wp2
      refine leave_conflict (Ds := D :: Ds) rfl hbr (List.nodup_cons.2 ⟨fun hc => ?_, hnd⟩) (fun E hE => ?_) hg2 (fun W' hW' => ⟨by rw [hL.out], hW'⟩)
      · have := (Array.getElem?_eq_some_iff.1 (hDs1 D hc).2).1
        omega
      · rcases List.mem_cons.1 hE with rfl | hE
        · exact ⟨by omega, hK⟩
        · exact ⟨(hDs1 E hE).1, hD2 E hE⟩

end Go.Proofs.Ytjifihfkoflbiaa
