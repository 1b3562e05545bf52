/- Part 23: walks by contracts, and plain laws. -/
import Derived.Deep.OwnRows
import Derived.Deep.RegionHeld3
import Derived.Test.YtjmignmnlpamjaaGreatVa22
set_option linter.unusedVariables false
set_option linter.unusedSimpArgs false
set_option linter.unusedSectionVars false
set_option maxRecDepth 100000
set_option maxHeartbeats 4000000
namespace Go.Proofs.YtjmignmnlpamjaaGreat
section
open Go.RowKit Go.Shelf

attribute [local go_sem] Oper.semAt_some

theorem ZB0 : ∀ (l r : List (List Int)) (vals : List Int) (ch : Bool), ZB3 (l ++ r) vals ch = (ZB3 l vals ch).bind fun p => ZB3 r p.1 p.2
 | [], _, _, _ => rfl
 | c :: l, r, vals, ch => by
  simp only [List.cons_append, ZB3]
  split
  ·rfl
  ·split
   ·exact ZB0 l r _ _
   ·exact ZB0 l r _ _

def ZNX (Ds : List Nat) : List Deferred := Ds.map fun D => { target := .collected D, args := #[] }

theorem ZD9 {F : Fence} {n : Nat} {P : Program} {fn : Func} {tmps : Array Value} {R : Ending -> World -> Prop} : ∀ (Ds : List Nat) (W : World), Ds.Nodup -> (∀ D ∈ Ds, W.heap[D]? = some (.deferred (some []))) ->
  (∀ W', (∀ k, k ∉ Ds -> W'.heap[k]? = W.heap[k]?) -> W'.heap.size = W.heap.size -> W'.os = W.os -> W'.tape = W.tape -> W'.output = W.output -> LeavesIn F n P fn tmps R [] .returning W') -> LeavesInM F n P fn tmps R (ZNX Ds) .returning W
 | [], W, _, _, h => h W (fun _ _ => rfl) rfl rfl rfl rfl
 | D :: Ds, W, hnd, hD, h => by
  have hd := hD D (by simp)
  refine ⟨by simp, .inl ⟨_, _, rfl, run_takeDeferred hd, ?_⟩⟩
  have hnd' := List.nodup_cons.1 hnd
  refine ZD9 Ds _ hnd'.2 (fun E hE => ?_) (fun W' h1 h2 h3 h4 h5 => ?_)
  ·have hne : E ≠ D := fun e => hnd'.1 (e ▸ hE)
   exact (World.putObj_heap_other hne).trans (hD E (by simp [hE]))
  ·refine h W' (fun k hk => ?_) (h2.trans (by simp)) h3 h4 h5
   simp only [List.mem_cons, not_or] at hk
   exact (h1 k hk.2).trans (World.putObj_heap_other hk.1)

abbrev CL (w : World) (b m : Nat) : Type := { x : Value × List Int // ZW (fun k => k < w.heap.size /\ k ≠ b) w x.1 x.2 /\ ∀ y ∈ x.2, y.natAbs < m }
abbrev CL.val {w : World} {b m : Nat} (x : CL w b m) : Value := x.1.1
abbrev CL.lits {w : World} {b m : Nat} (x : CL w b m) : List Int := x.1.2

structure CI (bp b Bp Br Bc : Nat) (w W : World) (vals : List Int) (ch : Bool) : Prop where
 ps : PS bp b W vals
 p : Boxed W Bp 135 (.pointer (some ⟨bp, 0, none⟩))
 r : Boxed W Br 4 (.bool false)
 c : Boxed W Bc 4 (.bool ch)
 g : w.grownBy W (some b)

def ZH2 : Option Obj -> Nat
 | some (.cells cs _ _) => cs.toList.countP fun v => match v with | .int _ n => decide (n = 0) | _ => false
 | _ => 0
theorem ZFB {w : World} {b : Nat} {vals : List Int} (h : IRow w b vals) : ZH2 w.heap[b]? = vals.count 0 := by
 rw [show w.heap[b]? = _ from h]
 simp only [ZH2, List.countP_map, List.count]
 congr 1
def ZMZ : Option Obj -> Nat
 | some (.cells cs _ _) => match cs.toList with | [.bool true] => 1 | _ => 0
 | _ => 0
def ZE2 (a : Act) : Nat := match a.tmps.getD 5 undef with | .pointer (some p) => p.block | _ => 0
def muC (b : Nat) (a : Act) (W : World) : Nat := 2 * ZH2 W.heap[b]? + ZMZ W.heap[ZE2 a]?
theorem ZD8 {W : World} {B : Nat} {t : TypeId} {ch : Bool} (h : Boxed W B t (.bool ch)) : ZMZ W.heap[B]? = if ch = true then 1 else 0 := by
 rw [show W.heap[B]? = _ from h]
 cases ch <;> rfl

abbrev frC (bp Bu Bv H Bc : Nat) (v9 v10 v24 : Value) (Ds : List Nat) : Act :=
 { tmps := #[.pointer (some ⟨bp, 0, none⟩), .func (.func 110) #[] #[.pointer (some ⟨Bu, 0, none⟩), .pointer (some ⟨Bv, 0, none⟩)], .pointer (some ⟨H, 0, none⟩), undef, .pointer (some ⟨H + 1, 0, none⟩), .pointer (some ⟨Bc, 0, none⟩),
   undef, undef, undef, v9, v10, undef, undef, undef, undef, undef, undef, undef, undef, undef, undef, undef, undef, undef, v24], defers := ZNX Ds }

def CInvC (bp b m Bu Bv : Nat) (w : World) (L : List (List Int)) (vals : List Int) (a : Act) (W : World) : Prop :=
 ∃ (Bc : Nat) (v9 v10 v24 : Value) (Ds : List Nat) (vs : List Int) (ch : Bool), a = frC bp Bu Bv w.heap.size Bc v9 v10 v24 Ds /\ CI bp b w.heap.size (w.heap.size + 1) Bc w W vs ch /\ w.heap.size + 2 ≤ Bc /\ Ds.Nodup /\ (∀ D ∈ Ds, w.heap.size ≤ D /\ W.heap[D]? = some (.deferred (some []))) /\
  vs.length = m /\ ZFD vs /\ ZAV L vals = (if ch = true then ZAV L vs else false)

theorem ZIz {b : Nat} {w W W' : World} {row : Option Nat} (h : w.grownBy W (some b)) (hg : W.grownBy W' row) (hr : ∀ r, row = some r -> w.heap.size ≤ r) : w.grownBy W' (some b) :=
 ⟨hg.os.trans h.os, hg.tape.trans h.tape, hg.output.trans h.output, Nat.le_trans h.size hg.size, fun k hk hne => (hg.block k (Nat.lt_of_lt_of_le hk h.size) (fun e => absurd (hr k e.symm) (Nat.not_le.2 hk))).trans (h.block k hk hne)⟩
theorem CI.kept {bp b Bp Br Bc : Nat} {w W W' : World} {vs : List Int} {ch : Bool} {row : Option Nat} (h : CI bp b Bp Br Bc w W vs ch) (hg : W.grownBy W' row) (hr : ∀ r, row = some r -> w.heap.size ≤ r /\ ∃ o : Obj, W.heap[r]? = some o /\ o.isCells = false) : CI bp b Bp Br Bc w W' vs ch := by
 have hr' : ∀ r, row = some r -> ∃ o : Obj, W.heap[r]? = some o /\ o.isCells = false := fun r e => (hr r e).2
 refine ⟨⟨h.ps.1, h.ps.2.1, cell_kept h.ps.2.2.1 hg hr', (grownBy_keeps_cells hg hr' h.ps.2.2.2 rfl).trans h.ps.2.2.2⟩, (grownBy_keeps_cells hg hr' h.p rfl).trans h.p, (grownBy_keeps_cells hg hr' h.r rfl).trans h.r, (grownBy_keeps_cells hg hr' h.c rfl).trans h.c, ?_⟩
 exact ⟨hg.os.trans h.g.os, hg.tape.trans h.g.tape, hg.output.trans h.g.output, Nat.le_trans h.g.size hg.size, fun k hk hne => (hg.block k (Nat.lt_of_lt_of_le hk h.g.size) (fun e => absurd (hr k e.symm).1 (Nat.not_le.2 hk))).trans (h.g.block k hk hne)⟩

theorem ZOF {bp b Bp Br Bc : Nat} {w W : World} {vs : List Int} {ch : Bool} {a : Act} (h : CI bp b Bp Br Bc w W vs ch) (ha : ZE2 a = Bc) : muC b a W = 2 * vs.count 0 + (if ch = true then 1 else 0) := by
 unfold muC
 rw [ZFB h.ps.2.2.2, ha, ZD8 h.c]
theorem ZEm {b : Nat} {w W : World} (h : w.grownBy W (some b)) {p : Addr} (hp : w.heap.size ≤ p.block \/ p.block = b) (v : Value) : w.grownBy (W.setCell p v) (some b) :=
 ⟨h.os, h.tape, h.output, Nat.le_trans h.size (KeepsOthers.setCell W p v).size, fun k hk hne => (Below.heap_setCell W p v k (by intro e; rcases hp with hp | hp; omega; exact hne (by rw [e, hp]))).trans (h.block k hk hne)⟩
theorem KeepsBut.set {bad : Nat -> Prop} (W : World) (p : Addr) (v : Value) (hp : bad p.block) : KeepsBut bad W (W.setCell p v) :=
 ⟨(KeepsOthers.setCell W p v).size, fun k o hb hk _ => (Below.heap_setCell W p v k (fun e => hb (e ▸ hp))).trans hk⟩
theorem CI.setC {bp b H Bc : Nat} {w W : World} {vs : List Int} {ch : Bool} (h : CI bp b H (H + 1) Bc w W vs ch) (hH : H = w.heap.size) (hb : b < H) (hbp : bp < H) (hBc : H + 2 ≤ Bc) (ch' : Bool) : CI bp b H (H + 1) Bc w (W.setCell ⟨Bc, 0, none⟩ (.bool ch')) vs ch' := by
 have hst : ∀ k, k ≠ Bc -> (W.setCell ⟨Bc, 0, none⟩ (.bool ch')).heap[k]? = W.heap[k]? := fun k hk => Below.heap_setCell W ⟨Bc, 0, none⟩ _ k hk
 exact ⟨⟨h.ps.1, h.ps.2.1, (World.cell?_of_block (hst bp (by omega))).trans h.ps.2.2.1, (hst b (by omega)).trans h.ps.2.2.2⟩, (hst _ (by omega)).trans h.p, (hst _ (by omega)).trans h.r, h.c.set _, ZEm h.g (.inl (by show w.heap.size ≤ Bc; omega)) _⟩
theorem CI.setB {bp b H Bc : Nat} {w W : World} {vs vs' : List Int} {ch : Bool} (h : CI bp b H (H + 1) Bc w W vs ch) (hH : H = w.heap.size) (hb : b < H) (hBc : H + 2 ≤ Bc) {k : Nat} {u : Value} (hps : PS bp b (W.setCell ⟨b, k, none⟩ u) vs') : CI bp b H (H + 1) Bc w (W.setCell ⟨b, k, none⟩ u) vs' ch := by
 have hst : ∀ j, j ≠ b -> (W.setCell ⟨b, k, none⟩ u).heap[j]? = W.heap[j]? := fun j hj => Below.heap_setCell W ⟨b, k, none⟩ _ j hj
 exact ⟨hps, (hst _ (by omega)).trans h.p, (hst _ (by omega)).trans h.r, (hst _ (by omega)).trans h.c, ZEm h.g (.inr rfl) _⟩

theorem ZC3 {F : Fence} {n : Nat} {b H1 : Nat} {w W : World} {Ds : List Nat} {tmps : Array Value} {r : Bool} {R : Ending -> World -> Prop} (h4 : tmps.getD 4 undef = .pointer (some ⟨H1, 0, none⟩)) (hr : Boxed W H1 4 (.bool r))
  (hnd : Ds.Nodup) (hDs : ∀ D ∈ Ds, w.heap.size ≤ D /\ W.heap[D]? = some (.deferred (some []))) (hg : w.grownBy W (some b)) (hR : ∀ W', w.grownBy W' (some b) -> R (.returned (.bool r)) W') :
  LeavesInM F n Tryz.prog Tryz.f109 tmps R (ZNX Ds) .returning W := by
 refine ZD9 Ds W hnd (fun D hD => (hDs D hD).2) (fun W' h1 h2 h3 h5 h6 => ?_)
 have hH : H1 ∉ Ds := fun hc => by
  have := (hDs _ hc).2
  rw [show W.heap[H1]? = _ from hr] at this
  cases this
 have hb : Boxed W' H1 4 (.bool r) := (h1 _ hH).trans hr
 have hc5 := hb.cell
 refine ⟨.bool r, ?_, hR W' ⟨h3.trans hg.os, h5.trans hg.tape, h6.trans hg.output, by rw [h2]; exact hg.size, fun k hk hne => ?_⟩⟩
 ·have h4' : tmps[4]?.getD undef = .pointer (some ⟨H1, 0, none⟩) := by simpa using h4
  simp [results, Tryz.f109, go_sem, h4', hc5]
 ·exact (h1 k (fun hc => absurd (hDs _ hc).1 (by omega))).trans (hg.block k hk hne)

set_option maxRecDepth 100000 in
set_option maxHeartbeats 4000000 in
theorem ZIu {bp b m : Nat} {w : World} {vals : List Int} (hps : PS bp b w vals) (hm : vals.length = m) (hsg : ZFD vals) (hb : b < w.heap.size) (hbp : bp < w.heap.size) (Bu Bv : Nat) (xs ys : List (CL w b m)) (u v : Value)
  (hBu : w.cell? ⟨Bu, 0, none⟩ = some u) (hBv : w.cell? ⟨Bv, 0, none⟩ = some v) (hBub : Bu ≠ b) (hBvb : Bv ≠ b)
  (hu : Arr RW (fun k => k < w.heap.size /\ k ≠ b) w u (xs.map CL.val)) (hv : Arr RW (fun k => k < w.heap.size /\ k ≠ b) w v (ys.map CL.val)) :
  Calls Tryz.prog 109 #[.pointer (some ⟨bp, 0, none⟩), .func (.func 110) #[] #[.pointer (some ⟨Bu, 0, none⟩), .pointer (some ⟨Bv, 0, none⟩)]] w
   fun e W' => e = .returned (.bool (ZAV ((xs ++ ys).map CL.lits) vals)) /\ w.grownBy W' (some b) := by
 obtain ⟨L, hLdef⟩ : ∃ L, (xs ++ ys).map CL.lits = L := ⟨_, rfl⟩
 rw [hLdef]
 have HL := Lib.hid hLdef
 clear hLdef
 refine (callsIn_wide (n := 9)).1 ?_
 refine callsIn_of_wp_marks Tryz.func109 rfl trivial ?_ rfl
 simp only [Tryz.ntmps109, List.size_toArray, List.length_cons, List.length_nil, Nat.reduceAdd, Nat.reduceSub, Array.replicate_succ, Array.replicate_zero, List.push_toArray, List.append_toArray, List.nil_append, List.cons_append]
 have b1 := Boxed.new w 135 (.pointer (some ⟨bp, 0, none⟩))
 have b2 := Boxed.new (w.alloc (.cells #[.pointer (some ⟨bp, 0, none⟩)] 135)) 4 (.bool false)
 have b3 := Boxed.new ((w.alloc (.cells #[.pointer (some ⟨bp, 0, none⟩)] 135)).alloc (.cells #[.bool false] 4)) 4 (.bool true)
 simp only [World.size_alloc] at b2 b3
 have hg0 : w.grownBy (((w.alloc (.cells #[.pointer (some ⟨bp, 0, none⟩)] 135)).alloc (.cells #[.bool false] 4)).alloc (.cells #[.bool true] 4)) (some b) :=
  ((World.grownBy_alloc w _ _).trans (World.grownBy_alloc _ _ _)).trans (World.grownBy_alloc _ _ _)
 have hps0 : PS bp b (((w.alloc (.cells #[.pointer (some ⟨bp, 0, none⟩)] 135)).alloc (.cells #[.bool false] 4)).alloc (.cells #[.bool true] 4)) vals := by
  have e : Ext w (((w.alloc (.cells #[.pointer (some ⟨bp, 0, none⟩)] 135)).alloc (.cells #[.bool false] 4)).alloc (.cells #[.bool true] 4)) := (((Ext.refl w).alloc _).alloc _).alloc _
  exact ⟨hps.1, hps.2.1, e.cell hps.2.2.1, hps.2.2.2.below e hb⟩
 gi_wp2
 refine wpIn_loop (CInvC bp b m Bu Bv w L vals) (muC b) ⟨w.heap.size + 1 + 1, undef, undef, undef, [], vals, true, rfl, ⟨hps0, (b1.alloc _).alloc _, b2.alloc _, b3, hg0⟩, Nat.le_refl _, List.nodup_nil, by simp, hm, hsg, rfl⟩ ?_
 clear b1 b2 b3 hg0 hps0
 rintro _ W ⟨Bc, v9, v10, v24, Ds, vs, ch, rfl, hci, hBc, hnd, hDs, hvm, hvs, hcf⟩
 have hmu : muC b (frC bp Bu Bv w.heap.size Bc v9 v10 v24 Ds) W = 2 * vs.count 0 + (if ch = true then 1 else 0) := by
  unfold muC
  rw [ZFB hci.ps.2.2.2, show ZE2 (frC bp Bu Bv w.heap.size Bc v9 v10 v24 Ds) = Bc from rfl, ZD8 hci.c]
 rw [hmu]
 have hc1 := hci.c.cell
 cases ch with
 | false =>
  clear hmu
  have hcr := hci.r.cell
  have hfr := hci.r.frozen
  have hkp := KeepsOthers.setCell W ⟨w.heap.size + 1, 0, none⟩ (.bool false)
  have hg2 : w.grownBy (W.setCell ⟨w.heap.size + 1, 0, none⟩ (.bool false)) (some b) :=
   ⟨hci.g.os, hci.g.tape, hci.g.output, Nat.le_trans hci.g.size hkp.size, fun k hk hne => (Below.heap_setCell W _ _ k (by show k ≠ w.heap.size + 1; omega)).trans (hci.g.block k hk hne)⟩
  have hbr := hci.r.set (.bool false)
  have Hcf := Lib.hid hcf
  clear hcf
  gi_wp2
  exact ZC3 rfl hbr hnd (fun D hD => ⟨(hDs D hD).1, hkp.same D _ (hDs D hD).2 rfl⟩) hg2 (fun W' hW' => ⟨by rw [Hcf.out]; rfl, hW'⟩)
 | true =>
  have hfc := hci.c.frozen
  have hbo : Bc ≠ b := by omega
  have hkp := KeepsOthers.setCell W ⟨Bc, 0, none⟩ (.bool false)
  have hst : ∀ k, k ≠ Bc -> (W.setCell ⟨Bc, 0, none⟩ (.bool false)).heap[k]? = W.heap[k]? := fun k hk => Below.heap_setCell W ⟨Bc, 0, none⟩ _ k hk
  have hci1 : CI bp b w.heap.size (w.heap.size + 1) Bc w (W.setCell ⟨Bc, 0, none⟩ (.bool false)) vs false :=
   ⟨⟨hci.ps.1, hci.ps.2.1, (World.cell?_of_block (hst bp (by omega))).trans hci.ps.2.2.1, (hst b (by omega)).trans hci.ps.2.2.2⟩, (hst _ (by omega)).trans hci.p, (hst _ (by omega)).trans hci.r, hci.c.set _,
    ⟨hci.g.os, hci.g.tape, hci.g.output, Nat.le_trans hci.g.size hkp.size, fun k hk hne => (hst k (by omega)).trans (hci.g.block k hk hne)⟩⟩
  have hDs1 : ∀ D ∈ Ds, w.heap.size ≤ D /\ (W.setCell ⟨Bc, 0, none⟩ (.bool false)).heap[D]? = some (.deferred (some [])) := fun D hD => ⟨(hDs D hD).1, hkp.same D _ (hDs D hD).2 rfl⟩
  have Hcf := Lib.hid hcf
  clear hcf hmu
  gi_wp2
  obtain ⟨W1, hW1⟩ : ∃ W1, W.setCell ⟨Bc, 0, none⟩ (.bool false) = W1 := ⟨_, rfl⟩
  rw [hW1] at hci1 hDs1 ⊢
  have hsz : w.heap.size + 2 ≤ W1.heap.size /\ Bc < W1.heap.size := by
   have h2 := hci1.c.lt
   exact ⟨by omega, h2⟩
  have hin : InR m L := by
   intro c hc y hy
   rw [<- HL.out] at hc
   obtain ⟨x, _, rfl⟩ := List.mem_map.1 hc
   exact x.2.2 y hy
  have hcls : ∀ {W2 : World}, w.grownBy W2 (some b) -> ∀ x : CL w b m, ZW (fun k => k < w.heap.size /\ k ≠ b) W2 x.val x.lits := fun hg x => Good.move (R := ZW) x.2.1 (fun k hk hlt => hg.block k hlt (by intro e; cases e; exact hk.2 rfl))
  have hbu := ZAR hBu
  have hbv := ZAR hBv
  refine wpIn_rangeFunc_ownG (w0 := W1) rfl (by omega) (gf := 110) (lb := #[.pointer (some ⟨Bu, 0, none⟩), .pointer (some ⟨Bv, 0, none⟩)]) rfl trivial (enters_of Tryz.func110 (by kernel_rfl) rfl)
   (ZIo (CL.val (w := w) (b := b) (m := m)) Fence.wide (9 - 1) trivial rfl (by omega) Bu Bv (fun k => k = b \/ k = w.heap.size + 1 \/ k = Bc) xs ys u v W1
    (by rintro k (rfl | rfl | rfl) <;> omega)
    ((World.cell?_of_block (hci1.g.block Bu hbu (by simpa using hBub))).trans hBu) ((World.cell?_of_block (hci1.g.block Bv hbv (by simpa using hBvb))).trans hBv)
    (Good.weak (R := Arr RW) (Good.move (R := Arr RW) hu (fun k hk hlt => hci1.g.block k hlt (by simpa using hk.2))) (fun k hk => by rintro (h | h | h) <;> omega))
    (Good.weak (R := Arr RW) (Good.move (R := Arr RW) hv (fun k hk hlt => hci1.g.block k hlt (by simpa using hk.2))) (fun k hk => by rintro (h | h | h) <;> omega)))
   (fun h k => KeepsBut.trans h k) (fun W l o o' _ hl hc _ => KeepsBut.putObj W l o o' hl hc) (Below.refl _ _) (fun _ => rfl)
   (fun pre W2 => (∃ vs' ch', ZB3 (pre.map CL.lits) vs false = some (vs', ch') /\ CI bp b w.heap.size (w.heap.size + 1) Bc w W2 vs' ch' /\ vs'.length = m /\ ZFD vs') /\ (∀ D ∈ Ds, W2.heap[D]? = some (.deferred (some []))) /\ W1.heap.size ≤ W2.heap.size)
   (fun c pre W2 => c = .ret /\ ZB3 (pre.map CL.lits) vs false = none /\ Boxed W2 (w.heap.size + 1) 4 (.bool true) /\ w.grownBy W2 (some b) /\ (∀ D ∈ Ds, W2.heap[D]? = some (.deferred (some []))))
   ?hI ?hIx ?h0
   (fun x => { tmps := #[.pointer (some ⟨bp, 0, none⟩), .func (.func 110) #[] #[.pointer (some ⟨Bu, 0, none⟩), .pointer (some ⟨Bv, 0, none⟩)], .pointer (some ⟨w.heap.size, 0, none⟩), undef, .pointer (some ⟨w.heap.size + 1, 0, none⟩), .pointer (some ⟨Bc, 0, none⟩),
    CL.val x, undef, undef, .bool true, .func (.func 110) #[] #[.pointer (some ⟨Bu, 0, none⟩), .pointer (some ⟨Bv, 0, none⟩)], CL.val x, undef, undef, undef, undef, undef, undef, undef, undef, undef, undef, undef, undef, v24], defers := [] }) ?assign ?body ?done ?stop
  case hI =>
   rintro pre A B row ⟨⟨vs', ch', h1, h2, h3, h4⟩, h5, h6⟩ hg hr
   refine ⟨⟨vs', ch', h1, h2.kept hg (fun r e => ⟨by have := (hr r e).1; omega, (hr r e).2⟩), h3, h4⟩, fun D hD => ?_, Nat.le_trans h6 hg.size⟩
   have hl1 := (Array.getElem?_eq_some_iff.1 (hDs1 D hD).2).1
   exact (hg.block D (Array.getElem?_eq_some_iff.1 (h5 D hD)).1 (fun e => absurd (hr D e.symm).1 (by omega))).trans (h5 D hD)
  case hIx =>
   rintro c pre A B row ⟨h1, h2, h3, h4, h5⟩ hg hr
   refine ⟨h1, h2, (grownBy_keeps_cells hg (fun r e => (hr r e).2) h3 rfl).trans h3, ZIz h4 hg (fun r e => by have := (hr r e).1; omega), fun D hD => ?_⟩
   have hl1 := (Array.getElem?_eq_some_iff.1 (hDs1 D hD).2).1
   exact (hg.block D (Array.getElem?_eq_some_iff.1 (h5 D hD)).1 (fun e => absurd (hr D e.symm).1 (by omega))).trans (h5 D hD)
  case h0 => exact ⟨⟨vs, false, rfl, hci1, hvm, hvs⟩, fun D hD => (hDs1 D hD).2, Nat.le_refl _⟩
  case assign =>
   intro l x W K hK
   gi_wp2
   exact hK
  case body =>
   rintro l pre x W2 ⟨⟨vs', ch', hp, hci2, hl2, hs2⟩, hD2, hsz2⟩ hlen
   have hx := hcls hci2.g x
   obtain ⟨⟨q, br⟩, hun⟩ : ∃ r, ZA0 vs' 0 (CL.lits x) = r := ⟨_, rfl⟩
   have hstep : ZB3 ((pre ++ [x]).map CL.lits) vs false = if br = true then none else if q ≠ 0 then some (ZDw vs' q, true) else some (vs', ch') := by
    rw [List.map_append, ZB0, hp]
    show ZB3 [CL.lits x] vs' ch' = _
    simp only [ZB3, hun]
   have hU := ZOP hci2.ps hx (fun y hy => by rw [hl2]; exact x.2.2 y hy) hs2
   rw [hun] at hU
   have hcp := hci2.p.cell
   have hcr := hci2.r.cell
   have hfr := hci2.r.frozen
   have hcc := hci2.c.cell
   have hfcc := hci2.c.frozen
   have Hstep := Lib.hid hstep
   have Hun := Lib.hid hun
   clear hstep hun hp hDs1 hDs hcls hin
   cases br with
   | true =>
    gi_wp2_with (refine ⟨trivial, ?_⟩; gi_at_call 121; refine (CallsIn.inRound l (callsIn_wide.2 hU)).mono ?_; rintro e w3 ⟨rfl, rfl⟩)
    exact ⟨(KeepsOthers.setCell _ _ _).from _, rfl, by rw [Hstep.out]; rfl, hci2.r.set _, ZEm hci2.g (.inl (Nat.le_succ _)) _, fun D hD => (KeepsOthers.setCell _ _ _).same D _ (hD2 D hD) rfl⟩
   | false =>
    by_cases hq : q = 0
    ·have hbq : (q != 0) = false := by simp [hq]
     have Hq := Lib.hid hq
     clear hq
     gi_wp2_with (refine ⟨trivial, ?_⟩; gi_at_call 121; refine (CallsIn.inRound l (callsIn_wide.2 hU)).mono ?_; rintro e w3 ⟨rfl, rfl⟩)
     exact ⟨KeepsFrom.refl _ _, KeepsBut.refl _ _, ⟨vs', ch', by rw [Hstep.out]; simp [Hq.out], hci2, hl2, hs2⟩, hD2, hsz2⟩
    ·have hbq : (q != 0) = true := by simp [hq]
     have hqm : q ∈ CL.lits x := by
      have := ZHE (vals := vs') (c := CL.lits x) (by rw [Hun.out]; exact hq)
      rw [Hun.out] at this; exact this.1
     have hA := ZIB hci2.ps (x := q) (by rw [hl2]; exact x.2.2 q hqm)
     have Hq := Lib.hid hq
     clear hq hqm
     gi_wp2_with (first | (refine ⟨trivial, ?_⟩; gi_at_call 121; refine (CallsIn.inRound l (callsIn_wide.2 hU)).mono ?_; rintro e w3 ⟨rfl, rfl⟩) | (refine ⟨trivial, ?_⟩; gi_at_call 108; refine (CallsIn.inRound l (callsIn_wide.2 hA)).mono ?_; rintro e w4 ⟨⟨r, rfl⟩, hps4, k4, u4, rfl⟩; have hci4 := hci2.setB rfl hb hBc hps4; have hcc4 := hci4.c.cell; have hfcc4 := hci4.c.frozen))
     refine ⟨((KeepsOthers.setCell _ _ _).trans (KeepsOthers.setCell _ _ _)).from _, KeepsBut.trans (KeepsBut.set _ _ _ (.inl rfl)) (KeepsBut.set _ _ _ (.inr (.inr rfl))), ⟨ZDw vs' q, true, ?_, hci4.setC rfl hb hbp hBc true, by rw [ZBI]; exact hl2, ZDx hs2 _⟩, fun D hD => ?_, ?_⟩
     ·rw [Hstep.out]; simp [Hq.out]
     ·exact ((KeepsOthers.setCell _ _ _).trans (KeepsOthers.setCell _ _ _)).same D _ (hD2 D hD) rfl
     ·exact Nat.le_trans hsz2 ((KeepsOthers.setCell _ _ _).trans (KeepsOthers.setCell _ _ _)).size
  case done =>
   rintro D zs W2 hD rfl ⟨⟨vs', ch', hp, hci2, hl2, hs2⟩, hD2, hsz2⟩ hK
   have hcc := hci2.c.cell
   have hL : Hid (ZAV L vals = if ch' = true then ZAV L vs' else false) := by
    show _ = _
    have e := Hcf.out
    simp only [if_true] at e
    rw [HL.out] at hp
    rw [e, ZB2 (by rw [hvm]; exact hin), hp]
    cases ch' <;> rfl
   have hcnt : Hid (2 * vs'.count 0 + (if ch' = true then 1 else 0) < 2 * vs.count 0 + 1) := by
    show _ < _
    rw [HL.out] at hp
    obtain ⟨_, e2, e3, _⟩ := ZBh (by rw [hvm]; exact hin) hp
    cases ch' with
    | true => have := (e3 rfl).resolve_left (by simp); simp; omega
    | false => simp; omega
   clear hp Hcf hcls hin
   gi_wp2
   have hk3 := hci2.kept (World.grownBy_alloc W2 (.cells #[.bool ch'] 4) none) (fun r e => by cases e)
   have hci3 : CI bp b w.heap.size (w.heap.size + 1) W2.heap.size w (W2.alloc (.cells #[.bool ch'] 4)) vs' ch' := ⟨hk3.ps, hk3.p, hk3.r, Boxed.new W2 _ _, hk3.g⟩
   refine ⟨⟨W2.heap.size, _, _, _, D :: Ds, vs', ch', rfl, hci3, by omega, List.nodup_cons.2 ⟨fun hc => ?_, hnd⟩, fun E hE => ?_, hl2, hs2, hL.out⟩, ?_⟩
   ·have := (Array.getElem?_eq_some_iff.1 (hDs1 D hc).2).1
    omega
   ·have key : w.heap.size ≤ E /\ W2.heap[E]? = some (.deferred (some [])) := by
     rcases List.mem_cons.1 hE with rfl | hE
     ·exact ⟨by omega, hK⟩
     ·exact ⟨(hDs1 E hE).1, hD2 E hE⟩
    exact ⟨key.1, (Below.heap_alloc W2 _ E (Array.getElem?_eq_some_iff.1 key.2).1).trans key.2⟩
   ·rw [ZOF hci3 rfl]
    exact hcnt.out
  case stop =>
   rintro D c pre W2 hD ⟨rest, hpre⟩ ⟨rfl, hpn, hbr, hg2, hD2⟩ hK
   have hL : Hid (ZAV L vals = true) := by
    show _ = _
    have e := Hcf.out
    simp only [if_true] at e
    rw [e, ZB2 (by rw [hvm]; exact hin), <- HL.out, <- hpre, List.map_append, ZB0, hpn]
    rfl
   clear hpn Hcf hcls hin
   gi_wp2
   refine ZC3 (Ds := D :: Ds) rfl hbr (List.nodup_cons.2 ⟨fun hc => ?_, hnd⟩) (fun E hE => ?_) hg2 (fun W' hW' => ⟨by rw [hL.out], hW'⟩)
   ·have := (Array.getElem?_eq_some_iff.1 (hDs1 D hc).2).1
    omega
   ·rcases List.mem_cons.1 hE with rfl | hE
    ·exact ⟨by omega, hK⟩
    ·exact ⟨(hDs1 E hE).1, hD2 E hE⟩

end
section
open Go.RowKit

theorem ZKZ (w : World) (n : Nat) : IRow (w.alloc (.cells (madeCells #[.int .i64 0] n) 3)) w.heap.size (List.replicate n 0) := by
 show _ = _
 rw [World.alloc_heap_new]
 congr 2
 apply Array.ext'
 rw [toList_madeCells_one]
 simp

theorem ZKz {P : Nat -> Prop} {w : World} {b m : Nat} {u : Value} {l : List (List Int)} (h : Rows P w u l) (hP : ∀ k, P k -> k < w.heap.size /\ k ≠ b) (hm : InR m l) :
  ∃ xs : List (CL w b m), xs.map CL.lits = l /\ Arr RW (fun k => k < w.heap.size /\ k ≠ b) w u (xs.map CL.val) := by
 obtain ⟨xs, h1, h2, h3⟩ := ZJH h
 have hp : ∀ x ∈ xs, ZW (fun k => k < w.heap.size /\ k ≠ b) w x.1 x.2 /\ ∀ y ∈ x.2, y.natAbs < m := fun x hx =>
  ⟨Good.weak (R := ZW) (h2 x hx).1 hP, hm x.2 (h1 ▸ List.mem_map_of_mem hx)⟩
 refine ⟨xs.attachWith _ hp, ?_, ?_⟩
 ·rw [<- h1]
  apply List.ext_getElem
  ·simp
  ·intro i a1 a2; simp [CL.lits]
 ·have e : (xs.attachWith _ hp).map CL.val = xs.map Prod.fst := by
   apply List.ext_getElem
   ·simp
   ·intro i a1 a2; simp [CL.val]
  rw [e]
  exact Good.weak (R := Arr RW) h3 hP

set_option maxHeartbeats 2000000 in
theorem ZKW {V : Nat} {P : Nat -> Prop} {v u1 u2 : Value} {c : List Int} {l1 l2 : List (List Int)} {w : World} {Bu Bv : Nat} {P1 P2 : Nat -> Prop} (hV : V ≤ 4096) (hBu : w.cell? ⟨Bu, 0, none⟩ = some u1) (hBv : w.cell? ⟨Bv, 0, none⟩ = some u2)
  (hu : Rows P1 w u1 l1) (hv : Rows P2 w u2 l2) (hc : ZW P w v c) (h1 : InR (V + 1) l1) (h2 : InR (V + 1) l2) (h3 : ∀ x ∈ c, x.natAbs < V + 1) :
  Calls Tryz.prog 86 #[.int .i64 (V : Int), .func (.func 110) #[] #[.pointer (some ⟨Bu, 0, none⟩), .pointer (some ⟨Bv, 0, none⟩)], v] w
   fun e w' => e = .returned (.bool (ZAV (l1 ++ l2) (ZBq (V + 1) c))) /\ Ext w w' := by
 have hle := hc.le
 have hmk : ∀ w : World, (Instr.makeSlice 25 (.int .i64 ((V : Int) + 1)) (.int .i64 ((V : Int) + 1))).run Tryz.prog w = .ok (.slice (some ⟨w.heap.size, 0, none⟩) (V + 1) (V + 1)) (w.alloc (.cells (madeCells #[.int .i64 0] (V + 1)) 3)) :=
  fun w => run_make_row' (P := Tryz.prog) 25 3 (.int .i64 0) 8 Tryz.underlying25 elI.info rfl .i64 .i64 (V + 1) (by omega) (by omega) w
 have H3 := Lib.hid h3
 clear h3
 go_enter Tryz.func86, Tryz.ntmps86
 go_wp2_with ((with_reducible refine ZAL elI.und ?_ ?_ hc.len ?_); (· rfl); (· rfl); simp only [Act.put, List.setIfInBounds_toArray, List.set_cons_succ, List.set_cons_zero])
 have e1 : Ext w ((w.alloc (.cells (madeCells #[.int .i64 0] (V + 1)) 3)).alloc (.cells #[.slice (some ⟨w.heap.size, 0, none⟩) (V + 1) (V + 1)] 137)) := ((Ext.refl w).alloc _).alloc _
 have hps : PS (w.heap.size + 1) w.heap.size ((w.alloc (.cells (madeCells #[.int .i64 0] (V + 1)) 3)).alloc (.cells #[.slice (some ⟨w.heap.size, 0, none⟩) (V + 1) (V + 1)] 137)) (ZBq (V + 1) []) := by
  have hb := Boxed.new (w.alloc (.cells (madeCells #[.int .i64 0] (V + 1)) 3)) 137 (.slice (some ⟨w.heap.size, 0, none⟩) (V + 1) (V + 1))
  rw [World.size_alloc] at hb
  refine ⟨by omega, by rw [ZAw]; simp only [maxLen]; omega, by rw [ZAw]; exact hb.cell, ?_⟩
  exact (ZKZ w (V + 1)).below (Below.alloc (Below.refl (w.heap.size + 1) _) (by simp) _) (Nat.lt_succ_self _)
 obtain ⟨W1, hW1⟩ : ∃ W1, (w.alloc (.cells (madeCells #[.int .i64 0] (V + 1)) 3)).alloc (.cells #[.slice (some ⟨w.heap.size, 0, none⟩) (V + 1) (V + 1)] 137) = W1 := ⟨_, rfl⟩
 rw [hW1] at e1 hps ⊢
 clear hmk hW1
 go_loopw [17] (fun i wr => ∃ k : Nat, k ≤ c.length /\ i = .int .i64 k /\ PS (w.heap.size + 1) w.heap.size wr (ZBq (V + 1) (c.take k)) /\ Ext w wr /\ w.heap.size + 1 < wr.heap.size) (fun i _ => c.length - (intOf i).toNat)
 case atStart => exact ⟨0, Nat.zero_le _, rfl, hps, e1, ZAR hps.2.2.1⟩
 case round =>
  obtain ⟨k, hk, rfl, hps2, e2, hlt2⟩ := hrel
  have hc2 := hc.ext e2
  by_cases hlt : k < c.length
  ·have hck := H3.out _ (List.getElem_mem hlt)
   have hlo : -9223372036854775807 ≤ c[k] := by omega
   have hhi : c[k] ≤ 9223372036854775807 := by omega
   have hA := ZIB hps2 (x := -c[k]) (by rw [ZAw]; omega)
   have htk : Hid (ZBq (V + 1) (c.take (k + 1)) = ZDw (ZBq (V + 1) (c.take k)) (-c[k])) := by show _ = _; rw [List.take_succ_eq_append_getElem hlt, ZHu]
   clear hck
   go_wp2_with (first | ((with_reducible refine ZBZ elI ?_ ?_ ?_ ?_ ?_ hc2 hlt ?_); (· rfl); (· exact fun _ => rfl); (· exact fun _ => rfl); (· rfl); (· rfl); intro _; simp only [Act.put, List.setIfInBounds_toArray, List.set_cons_succ, List.set_cons_zero]) | (go_at_call 108; refine (hA).mono ?_; rintro e w3 ⟨⟨r, rfl⟩, hps3, k3, u3, rfl⟩))
   go_roundw
   case rel => exact ⟨k + 1, hlt, by go_num, by rw [htk.out]; exact hps3, Below.setCell e2 (Nat.le_refl _) _, Nat.lt_of_lt_of_le hlt2 (KeepsOthers.setCell _ _ _).size⟩
   case measure => simp [intOf]; omega
  ·obtain rfl : k = c.length := by omega
   rw [List.take_length] at hps2
   obtain ⟨xs, hx1, hx2⟩ := ZKz (b := w.heap.size) (m := V + 1) ((Good.ext (R := Rows) (ZJb hu) e2)) (fun k hk => ⟨Nat.lt_of_lt_of_le hk e2.size, Nat.ne_of_lt hk⟩) h1
   obtain ⟨ys, hy1, hy2⟩ := ZKz (b := w.heap.size) (m := V + 1) ((Good.ext (R := Rows) (ZJb hv) e2)) (fun k hk => ⟨Nat.lt_of_lt_of_le hk e2.size, Nat.ne_of_lt hk⟩) h2
   have hC := ZIu hps2 (ZAw _ _) (ZHA _ _) (by omega) hlt2 Bu Bv xs ys u1 u2 (e2.cell hBu) (e2.cell hBv) (Nat.ne_of_lt (ZAR hBu)) (Nat.ne_of_lt (ZAR hBv)) hx2 hy2
   rw [List.map_append, hx1, hy1] at hC
   clear hx1 hy1 hx2 hy2
   go_wp2_with (go_at_call 109; refine (hC).mono ?_; rintro e w4 ⟨rfl, hg4⟩)
   go_ret
   exact ⟨rfl, e2.grown hg4 e2.size (fun k e => by cases e; exact Nat.le_refl _)⟩

end
section
open Go.RowKit

def ZA1 (vars : Int) (l : List (List Int)) (c : List Int) : Bool × Int :=
 if ZQ vars l ≠ 0 then (false, ZQ vars l) else if ZR vars none c ≠ 0 then (false, ZR vars none c) else (ZMB vars.toNat l c, 0)

set_option maxHeartbeats 2000000 in
theorem ZJA {P P' : Nat -> Prop} {u v : Value} {l : List (List Int)} {c : List Int} (vars : Int) (w : World) (hu : Rows P w u l) (hv : ZW P' w v c) (hr : IRR l) :
  Calls Tryz.prog 40 #[.agg #[.int .i64 vars, u], v] w fun e w' => e = .returned (.tuple #[.bool (ZA1 vars l c).1, .int .i64 (ZA1 vars l c).2]) /\ Ext w w' := by
 by_cases hc : ZQ vars l = 0
 ·obtain ⟨hv0, hv1, hl, hcl⟩ := Zc hc
  obtain ⟨V, rfl⟩ : ∃ V : Nat, vars = (V : Int) := ⟨vars.toNat, by omega⟩
  have hV : V ≤ 4096 := by omega
  have hin := ZJv ((Zs hV).1 hcl)
  by_cases hz : ZR (V : Int) none c = 0
  ·have hver : Hid (ZA1 (V : Int) l c = (ZMB V l c, 0)) := by show _ = _; unfold ZA1; rw [if_neg (by simp [hc]), if_neg (by simp [hz])]; rfl
   have hcr : ∀ x ∈ c, x.natAbs < V + 1 := fun x hx => by have := (((ZAX hV).1 hz).rng x hx).2; omega
   have HC := Lib.hid hcr
   have HI := Lib.hid hin
   clear hcr hin hcl
   go_enter Tryz.func40, Tryz.ntmps40
   go_wp2_with (first | (go_at_call 42; refine (ZEQ _ _ (hu.ext (ZF _ _)) hr).mono ?_; rintro e w1 ⟨rfl, hx1⟩; have hb0 : w1.cell? ⟨w.heap.size, 0, none⟩ = some (.int .i64 (V : Int)) := hx1.cell (by simp); have hb1 : w1.cell? ⟨w.heap.size, 1, none⟩ = some u := hx1.cell (by simp); have hx := (ZF w _).trans hx1; have hu1 := hu.ext hx; have hv1 := hv.ext hx) | (go_at_call 85; refine (ZIZ _ _ hv1 (by omega) (by omega)).mono ?_; rintro e w2 ⟨rfl, rfl⟩))
   have e2 : Ext w2 w2.drew := (Ext.refl _).drew
   have hB := ZNz (P' := noB) (v := .slice none 0 0) (p := []) w2.drew (hu1.ext e2) ZCP
   have e3 : Ext w2.drew ((w2.drew.alloc (.cells #[u] 22)).alloc (.cells #[.slice none 0 0] 22)) := ((Ext.refl _).alloc _).alloc _
   obtain ⟨w3, hw3⟩ : ∃ w3, (w2.drew.alloc (.cells #[u] 22)).alloc (.cells #[.slice none 0 0] 22) = w3 := ⟨_, rfl⟩
   have hBu : w3.cell? ⟨w2.heap.size, 0, none⟩ = some u := by rw [<- hw3]; exact ((Boxed.new w2.drew 22 u).alloc _).cell
   have hBv : w3.cell? ⟨w2.heap.size + 1, 0, none⟩ = some (.slice none 0 0) := by rw [<- hw3]; have h := (Boxed.new (w2.drew.alloc (.cells #[u] 22)) 22 (.slice none 0 0)).cell; rw [World.size_alloc] at h; exact h
   rw [hw3] at e3 hB
   have e4 := e2.trans e3
   have hI := ZKW (P2 := noB) (l2 := []) hV hBu hBv (hu1.ext e4) ZCP (hv1.ext e4) HI.out (fun c hc => by cases hc) HC.out
   rw [List.append_nil] at hI
   have k0 := e4.cell hb0
   have k1 := e4.cell hb1
   go_region_held3 (fun w' => w'.cell? ⟨w.heap.size, 0, none⟩ = some (.int .i64 (V : Int)) /\ w'.cell? ⟨w.heap.size, 1, none⟩ = some u) (first | go_keep | exact ⟨k0, k1⟩ | exact ⟨hx5.cell k0, hx5.cell k1⟩)
    (first | (go_at_call 87; refine hB.mono ?_; rintro e w4 ⟨rfl, rfl⟩) | (go_at_call 86; refine hI.mono ?_; rintro e w5 ⟨rfl, hx5⟩))
   all_goals go_wp2
   go_ret2
   exact ⟨ZFa (by rw [hver.out]; rfl) (by rw [hver.out]), hx.trans (e4.trans hx5)⟩
  ·have hver : Hid (ZA1 (V : Int) l c = (false, ZR (V : Int) none c)) := by show _ = _; unfold ZA1; rw [if_neg (by simp [hc]), if_pos hz]
   clear hin hcl
   go_enter Tryz.func40, Tryz.ntmps40
   go_wp2_with (first | (go_at_call 42; refine (ZEQ _ _ (hu.ext (ZF _ _)) hr).mono ?_; rintro e w1 ⟨rfl, hx1⟩; have hb0 : w1.cell? ⟨w.heap.size, 0, none⟩ = some (.int .i64 (V : Int)) := hx1.cell (by simp); have hx := (ZF w _).trans hx1; have hv1 := hv.ext hx) | (go_at_call 85; refine (ZIZ _ _ hv1 (by omega) (by omega)).mono ?_; rintro e w2 ⟨rfl, rfl⟩))
   go_ret2
   exact ⟨ZFa (by rw [hver.out]) (by rw [hver.out]), hx⟩
 ·have hver : Hid (ZA1 vars l c = (false, ZQ vars l)) := by show _ = _; unfold ZA1; rw [if_pos hc]
  go_enter Tryz.func40, Tryz.ntmps40
  go_wp2_with (first | (go_at_call 42; refine (ZEQ _ _ (hu.ext (ZF _ _)) hr).mono ?_; rintro e w1 ⟨rfl, hx1⟩))
  go_ret2
  exact ⟨ZFa (by rw [hver.out]) (by rw [hver.out]), (ZF w _).trans hx1⟩

end
section
open Go.RowKit

theorem WfL.take {V : Nat} {p : List (List Int)} (k : WfL V p) (n : Nat) : WfL V (p.take n) := fun c hc => k c (List.mem_of_mem_take hc)

theorem ZG0 {vars : Int} {l : List (List Int)} {c : List Int} : ZA1 vars l c = Za vars l c := by
 unfold ZA1 Za
 by_cases hc : ZQ vars l = 0
 ·simp only [hc, ne_eq, not_true_eq_false, if_false]
  have hvars := Zc hc
  obtain ⟨V, rfl⟩ : ∃ V : Nat, vars = (V : Int) := ⟨vars.toNat, by omega⟩
  have hV : V ≤ 4096 := by omega
  by_cases hz : ZR (V : Int) none c = 0
  ·simp only [hz, not_true_eq_false, if_false]
   rw [Int.toNat_natCast, ZMC hV ((Zs hV).1 hvars.2.2.2) ((ZAX hV).1 hz)]
  ·simp only [hz, not_false_eq_true, if_true]
 ·simp only [hc, ne_eq, not_false_eq_true, if_true]

end
section
open Go.RowKit

theorem ZFJ (w : World) (g : Nat) (cs : Array Value) : w.grownBy (w.setRow g cs) (some g) :=
 ⟨rfl, rfl, rfl, by simp, fun k _ hne => setRow_other w g k cs (fun e => hne (by rw [e]))⟩

section
variable {P : Program} {ops : Array Oper} {rest : List Oper} {o : Oper} {a : Act} {Q : Exit -> Act -> World -> Prop} {w : World} {t e : TypeId} {z : Value} {bytes : Nat}

theorem Own.set {α : Type} {R : Rel α} [Good R] {B : Nat} {PB : Nat -> Prop} {v : Value} {xs : List α} {k : Nat} (hv : Own B e R PB w v xs) (hk : k < xs.length) {u : Value} (hu1 : u.oneCell' = true) (y : α) (hu : R (fun b => PB b /\ v.ownBlock ≠ some b) w u y) :
  ∃ g cap, v = .slice (some ⟨g, 0, none⟩) xs.length cap /\ (store ((⟨g, k, none⟩ : Addr).add 0) u).run P w = .ok () (w.setCell ⟨g, k, none⟩ u) /\ Own B e R PB (w.setCell ⟨g, k, none⟩ u) v (xs.set k y) /\ w.grownBy (w.setCell ⟨g, k, none⟩ u) (some g) /\ v.ownBlock = some g := by
 obtain ⟨us, hl, ⟨hul, ho⟩, he⟩ := hv
 rcases ho with ⟨rfl, h0⟩ | ⟨g, cap, cur, rfl, hB, hg, hn, hm, hs, ht⟩
 ·omega
 ·rw [Nat.mul_one] at hs ht
  have hkc : k < cur.size := by omega
  have hset := setCell_eq_setRow w g k cur e (0, 0) u hg
  have hc : w.cell? ⟨g, k, none⟩ = some cur[k] := by simp [World.cell?, hg, hkc]
  have hf : w.frozen? ⟨g, k, none⟩ = false := by simp [World.frozen?, hg]
  have hgr := ZFJ w g (cur.setIfInBounds k u)
  refine ⟨g, cap, rfl, ?_, ⟨us.set k u, by simp [hl], ⟨by simp [hul], .inr ⟨g, cap, cur.setIfInBounds k u, by simp, hB, ?_, by simpa using hn, hm, by simpa using hs, ?_⟩⟩, ?_⟩, by rw [hset]; exact hgr, rfl⟩
  ·rw [show ((⟨g, k, none⟩ : Addr).add 0) = ⟨g, k, none⟩ from rfl, run_store P w _ u _ hu1, hc]
   simp [hf]
  ·rw [hset]; exact setRow_heap w g cur _ e _ hg
  ·simp only [List.length_set, Nat.mul_one, Array.toList_setIfInBounds]
   rw [<- ht, List.take_set]
  ·intro j h1 h2
   simp only [List.length_set] at h1 h2
   rw [List.getElem_set, List.getElem_set, hset]
   by_cases hkj : k = j
   ·rw [if_pos hkj, if_pos hkj]
    exact ⟨hu1, Good.grown hu hgr (fun r hr hc => hc.2 (by cases hr; rfl))⟩
   ·rw [if_neg hkj, if_neg hkj]
    exact ⟨(he j h1 h2).1, Good.grown (he j h1 h2).2 hgr (fun r hr hc => hc.2 (by cases hr; rfl))⟩

end

end
section
open Go.RowKit

structure IsM (V : Nat) (m : List Int) : Prop where
 len : m.length = V
 at' : ∀ k (h : k < m.length), m[k] = (k : Int) + 1 \/ m[k] = -((k : Int) + 1)

end
end Go.Proofs.YtjmignmnlpamjaaGreat
