/- Part 15: walks by contracts, and plain laws. -/
import Derived.Test.YtmcllakdbgnfiaaGreatDoorVg14
set_option linter.unusedVariables false
set_option linter.unusedSimpArgs false
set_option linter.unusedSectionVars false
set_option maxRecDepth 100000
set_option maxHeartbeats 4000000
namespace Go.Proofs.YtmcllakdbgnfiaaGreatDoor
section
open Go.RowKit
section
variable {P : Program} {ops : Array Oper} {hp : List HObj} {fr : List Dat} {Q : Z1} {rest : List Oper}
variable {dst : Option Tmp} {ty : TypeId} {ps : String} {af : Array Edge} {e t : TypeId} {bytes : Nat} {z : Value} {ag : Bool}
theorem WL.pushFork {s x : Operand} {k : Tmp} {dst2 : Option Tmp} {ty2 : TypeId} {ps2 : String} {af2 : Array Edge} (E : ElT P t e 1 z bytes ag) {α : Type} {R : Rel α} {_gR : Good R} {v : Value} {xs : List α} {y : α} (hs : OpD fr s (dX v)) (hx : OpD fr x (dS R y)) (hsh : ∀ a, (dS R a).Shape 1 false) (hne : s ≠ .tmp k) (hkl : k < fr.length) (hby : 0 < bytes)
  (hlen : (xs.length + 1) * bytes <= 140737488355328)
  (same : ∀ b cap, v = .slice (some ⟨b, 0, none⟩) xs.length cap -> xs.length + 1 <= cap -> WL P ops Q rest (ZB (fr.set k dA) dst2 (dX (.slice (some ⟨b, 0, none⟩) (xs.length + 1) cap))) (hQ b (xs.length + 1) cap e R (xs ++ [y]) :: hp))
  (new : ∀ v', WL P ops Q rest (ZB (fr.set k dA) dst2 (dX v')) (ZU v' e R (xs ++ [y]) :: ZU v e R xs :: hp)) :
  WL P ops Q ({ dst := some k, op := .buildSlice t 1 #[(0, x)], type := ty, pos := ps, after := af, guard := none } :: { dst := dst2, op := .call { callee := .builtin .append, args := #[s, .tmp k], argTypes := #[t, t] }, type := ty2, pos := ps2, after := af2, guard := none } :: rest) fr (ZU v e R xs :: hp) := by
 refine WL.of fun P0 B w0 w a hh hf => ?_
 have hxr := hx.ev hf
 obtain ⟨cs, k1, k0, k2, k3, k4⟩ := hsh y _ _ _ hxr
 simp only [Bool.false_eq_true, if_false] at k4
 subst k4
 have hb := ZAN (w := w) E (us := [a.eval x]) (css := [[a.eval x]]) rfl (fun i u cs' hu hcs => by
  cases i with
  | zero => cases hu; cases hcs; exact ⟨k3, k1⟩
  | succ i => simp at hu) (by simp)
 refine Zb rfl (v := .slice (some ⟨w.heap.size, 0, none⟩) 1 1) (w' := w.alloc (.cells [[a.eval x]].flatten.toArray e)) ?_ ?_
 ·unfold execOp
  simp only [List.map_toArray, List.map_cons, List.map_nil, Sem.run_bind]
  have : (Instr.buildSlice t 1 #[(0, a.eval x)]).run P w = .ok (.slice (some ⟨w.heap.size, 0, none⟩) 1 1) (w.alloc (.cells [[a.eval x]].flatten.toArray e)) := hb
  simp only [this, Result.andThen_ok, Sem.run_pure]
 have hxe := Ext.of_alloc w (.cells [[a.eval x]].flatten.toArray e)
 have hh1 := hh.ext hxe
 have hf1 : Fr (Imm P0 B (ZU v e R xs :: hp)) (w.alloc (.cells [[a.eval x]].flatten.toArray e)) (a.put (some k) (.slice (some ⟨w.heap.size, 0, none⟩) 1 1)) (fr.set k dA) := Fr.put (x := some k) (hf.ext hxe) (d := dA) trivial
 have hm : xs.length + 1 <= maxLen := by
  have : (xs.length + 1) * 1 <= (xs.length + 1) * bytes := Nat.mul_le_mul_left _ hby
  simp only [maxLen]; omega
 have hone : (a.eval x).oneCell' = true := k2 _ (by simp)
 have hcell : ∀ j u, [a.eval x][j]? = some u -> (w.alloc (.cells [[a.eval x]].flatten.toArray e)).cell? ((⟨w.heap.size, 0, none⟩ : Addr).add j) = some u := fun j u hu => by
  rw [Addr.add_lit, cell_of_row _ _ _ _ _ _ (Ze w _), Nat.zero_add]
  simpa using hu
 have hev : (a.put (some k) (.slice (some ⟨w.heap.size, 0, none⟩) 1 1)).eval s = v := by rw [ZBk hne]; exact hs.ev hf
 have hyr : R (Imm P0 B (ZU v e R xs :: hp)) (w.alloc (.cells [[a.eval x]].flatten.toArray e)) (a.eval x) y := Good.ext (R := R) hxr hxe
 obtain ⟨i0, hi, hz, hsz, hbt⟩ := info_parts E.info
 generalize w.alloc (.cells [[a.eval x]].flatten.toArray e) = w1 at *
 obtain ⟨us, u1, ⟨u2, u3⟩, u4⟩ := (ZU v e R xs).bound (hh1.ok (ZU v e R xs) (by simp))
 rcases u3 with ⟨hv, hz0⟩ | ⟨g, cap, cur, hv, hB, hg, hc1, hc2, hc3, hc4⟩
 ·have hx0 : xs = [] := by
   apply List.eq_nil_of_length_eq_zero
   omega
  subst hx0
  obtain ⟨v', w', hr, r1, r2, r3⟩ := ZBN (ty := ty2) E hh1 (ad := ⟨w.heap.size, 0, none⟩) (c := 1) (ys := [y]) (news := [a.eval x]) rfl hcell k2 (fun j h1 h2 => by
    have hj : j = 0 := by simp at h1; omega
    subst hj
    exact hyr) (by simpa using hlen) (by simpa using hm)
  refine Zv (v := v) (yv := .slice (some ⟨w.heap.size, 0, none⟩) 1 1) hev (ZAV (by rw [hf.size]; exact hkl)) hr ?_
  subst hv
  have h2 : Hp P0 B w0 (ZU (.slice none 0 0) e R [] :: ZU v' e R ([] ++ [y]) :: hp) w' := r1.push (Ext.refl _) (by simp [ZU, Value.ownBlock]) Own.nil
  have h3 := WL.perm (List.Perm.swap _ _ _) (new v')
  exact h3.on h2 (Fr.put (x := dst2) (hf1.mono fun d _ hd => Za (Ext.refl _) (by simp [ZU, Value.ownBlock]) (ZI (o := ZU (.slice none 0 0) e R []) (o' := ZU v' e R ([] ++ [y])) r2 r3 hd)) (d := dX v') rfl)
 ·subst hv
  rw [Nat.mul_one] at hc3 hc4
  have hlu : us.length = xs.length := u1
  have hcl : xs.length <= cur.toList.length := by simp; omega
  have hold : ∀ j u, us[j]? = some u -> w1.cell? ((⟨g, 0, none⟩ : Addr).add j) = some u := fun j u hj => by
   have hlt := (List.getElem?_eq_some_iff.1 hj).1
   rw [<- hc4, List.getElem?_take, if_pos (by omega)] at hj
   rw [Addr.add_lit, Nat.zero_add]
   simp only [World.cell?, hg]
   simpa using hj
  by_cases hroom : xs.length + 1 <= cap
  ·have hin : xs.length < cur.size := by omega
   have hr := run_append_room_cells (P := P) w1 t ty2 e i0 E.und hi g 0 xs.length cap ⟨w.heap.size, 0, none⟩ 1 1 [a.eval x] (by simp [hsz]) hcell k2 hroom (fun j hj => by
    have hj0 : j = 0 := by simp at hj; omega
    subst hj0
    rw [hsz]
    simp [World.cell?, hg, hin]) (fun j hj => by simp [World.frozen?, hg])
   rw [hsz, Nat.zero_add, Nat.mul_one] at hr
   refine Zv (v := _) (yv := .slice (some ⟨w.heap.size, 0, none⟩) 1 1) hev (ZAV (by rw [hf.size]; exact hkl)) hr ?_
   have hgr : w1.grownBy (w1.setCells g xs.length [a.eval x]) (some g) := row_grown
   have hsplit : cur = (cur.toList.take xs.length ++ (cur.toList.drop xs.length).take 1 ++ cur.toList.drop (xs.length + 1)).toArray := by
    apply Array.ext'
    show cur.toList = _
    rw [List.append_assoc, <- List.drop_drop, List.take_append_drop, List.take_append_drop]
   have hg2 : (w1.setCells g xs.length [a.eval x]).heap[g]? = some (.cells (cur.toList.take xs.length ++ [a.eval x] ++ cur.toList.drop (xs.length + 1)).toArray e (0, 0)) := by
    have := ZAO (g := g) (e := e) (fz := (0, 0)) [a.eval x] ((cur.toList.drop xs.length).take 1) (cur.toList.take xs.length) (cur.toList.drop (xs.length + 1)) w1 (by simp; omega) (by rw [<- hsplit]; exact hg)
    rwa [List.length_take, Nat.min_eq_left hcl] at this
   have hmv : ∀ (u : Value) (q : α), R (fun j => (Imm P0 B (ZU (.slice (some ⟨g, 0, none⟩) xs.length cap) e R xs :: hp) j /\ j < w1.heap.size) /\ j ≠ g) w1 u q -> R (fun j => (Imm P0 B (ZU (.slice (some ⟨g, 0, none⟩) xs.length cap) e R xs :: hp) j /\ j < w1.heap.size) /\ (Value.slice (some ⟨g, 0, none⟩) (xs.length + 1) cap).ownBlock ≠ some j) (w1.setCells g xs.length [a.eval x]) u q := fun u q hq =>
    Good.weak (Good.move hq fun j hj hlt => hgr.block j hlt fun he => hj.2 (by cases he; rfl)) fun j hj => ⟨hj.1, fun he => hj.2 (by cases he; rfl)⟩
   have hok : (hQ g (xs.length + 1) cap e R (xs ++ [y])).ok (fun j => Imm P0 B (ZU (.slice (some ⟨g, 0, none⟩) xs.length cap) e R xs :: hp) j /\ j < w1.heap.size) (w1.setCells g xs.length [a.eval x]) := by
    have hl2 : (us ++ [a.eval x]).length = (xs ++ [y]).length := by rw [List.length_append, List.length_append, hlu]; rfl
    refine ⟨us ++ [a.eval x], hl2, ⟨by rw [hl2, Nat.mul_one], .inr ⟨g, cap, _, by rw [List.length_append]; rfl, Nat.zero_le _, hg2, by rw [List.length_append]; exact hroom, hc2, ?_, ?_⟩⟩, fun j h1 h2 => ?_⟩
    ·rw [List.size_toArray]
     simp only [List.length_append, List.length_take, List.length_drop, List.length_singleton, Array.length_toList]
     omega
    ·rw [Nat.mul_one, hc4, List.length_append, List.length_singleton, <- hlu]
     show ((us ++ [a.eval x]) ++ _).take _ = _
     rw [List.take_left' (by simp)]
    ·by_cases hj : j < us.length
     ·rw [List.getElem_append_left hj, List.getElem_append_left (by omega)]
      obtain ⟨q1, q2⟩ := u4 j hj (by omega)
      exact ⟨q1, hmv _ _ (Good.weak q2 fun b hb => ⟨hb.1, fun he => hb.2 (by rw [he]; rfl)⟩)⟩
     ·have hj2 : j = us.length := by simp at h1; omega
      subst hj2
      rw [List.getElem_append_right (Nat.le_refl _), List.getElem_append_right (by omega)]
      simp only [Nat.sub_self, hlu, List.getElem_cons_zero]
      exact ⟨hone, hmv _ _ (Good.weak (Good.bound hyr) fun b hb => ⟨hb, fun he => hb.1.2 (ZU (.slice (some ⟨g, 0, none⟩) xs.length cap) e R xs) (by simp) (by rw [he]; rfl)⟩)⟩
   exact (same g cap rfl hroom).on (hh1.write hgr (.inl rfl) hok) (Fr.put (x := dst2) (hf1.mono fun d _ hd => ZI (o := ZU (.slice (some ⟨g, 0, none⟩) xs.length cap) e R xs) (o' := hQ g (xs.length + 1) cap e R (xs ++ [y])) hgr (.inl rfl) hd) (d := dX _) rfl)
  ·obtain ⟨v', w', hr, r1, r2⟩ := run_append_arg_grows (P := P) w1 t ty2 e i0 z 1 bytes E.und hi hz hsz hbt E.zs Nat.one_pos ⟨g, 0, none⟩ xs.length cap us (by omega) hold ⟨w.heap.size, 0, none⟩ 1 1 [a.eval x] rfl hcell (by omega) hm hlen
   refine Zv (v := _) (yv := .slice (some ⟨w.heap.size, 0, none⟩) 1 1) hev (ZAV (by rw [hf.size]; exact hkl)) hr ?_
   have hx2 : Ext w1 w' := ⟨r2.os, r2.tape, r2.output, r2.size, fun k hk => r2.block k hk (by simp)⟩
   have hob : ∀ k, (ZU v' e R (xs ++ [y])).blk = some k -> w1.heap.size <= k /\ k < w'.heap.size := fun k hk => r1.lt k hk
   have hok : (ZU v' e R (xs ++ [y])).ok (fun k => Imm P0 B (ZU (.slice (some ⟨g, 0, none⟩) xs.length cap) e R xs :: hp) k /\ k < w1.heap.size) w' := by
    have hl2 : (xs ++ [y]).length = xs.length + 1 := by simp
    have hbk : ∀ b, v'.ownBlock = some b -> w1.heap.size <= b := fun b hb => (hob b hb).1
    obtain ⟨q1, q2⟩ := r1
    refine ⟨us ++ [a.eval x], by simp [hlu], ⟨by rw [hl2]; exact q1, ?_⟩, fun j h1 h2 => ?_⟩
    ·rw [hl2]
     rcases q2 with ⟨z1, z2⟩ | ⟨g', c', cur', z1, _, z3⟩
     ·exact .inl ⟨z1, z2⟩
     ·exact .inr ⟨g', c', cur', z1, Nat.zero_le _, z3⟩
    ·by_cases hj : j < us.length
     ·rw [List.getElem_append_left hj, List.getElem_append_left (by omega)]
      obtain ⟨p1, p2⟩ := u4 j hj (by omega)
      exact ⟨p1, Good.ext (R := R) (Good.weak p2 fun b hb => ⟨hb.1, fun he => Nat.lt_irrefl _ (Nat.lt_of_lt_of_le hb.1.2 (hbk b he))⟩) hx2⟩
     ·have hj2 : j = us.length := by simp at h1; omega
      subst hj2
      rw [List.getElem_append_right (Nat.le_refl _), List.getElem_append_right (by omega)]
      simp only [Nat.sub_self, hlu, List.getElem_cons_zero]
      exact ⟨hone, Good.ext (R := R) (Good.weak (Good.bound hyr) fun b hb => ⟨hb, fun he => Nat.lt_irrefl _ (Nat.lt_of_lt_of_le hb.2 (hbk b he))⟩) hx2⟩
   exact (new v').on (hh1.push hx2 hob hok) (Fr.put (x := dst2) (hf1.mono fun d _ hd => Za hx2 (fun k hk => (hob k hk).1) hd) (d := dX v') rfl)
end
end
section
open Go.RowKit
structure SG (P : Program) (ops : Array Oper) (hp : List HObj) {β : Type} (H : β -> List HObj) (D : β -> Dat) (o : Oper) (fr : List Dat) : Prop where
 want : WantS ops o fr true
 out : ∀ {P0 : Nat -> Prop} {B : Nat} {w0 w : World} {a : Act}, Hp P0 B w0 hp w -> On (o.looksAt ops) (Imm P0 B hp) w a fr -> ∀ (K : Act -> World -> Prop) (Q : Exit -> Act -> World -> Prop),
  (∀ (x : β) (v : Value) (w' : World), Hp P0 B w0 (H x) w' -> (∀ (d : Dat) (u : Value), d.rd (Imm P0 B hp) w u -> d.rd (Imm P0 B (H x)) w' u) -> (D x).rd (Imm P0 B (H x)) w' v -> K (a.put o.dst v) w') -> o.wp P a w K Q
section
variable {P : Program} {ops : Array Oper} {hp : List HObj} {md : Region.Mode} {β : Type} {H : β -> List HObj} {D : β -> Dat} {dd : Nat -> Dat} {m : Nat} {fr fr' : List Dat} {o : Oper}
theorem SG.same (h : SG P ops hp H D o fr) (hl : fr'.length = fr.length) (hs : ∀ t ∈ o.looksAt ops, fr'[t]? = fr[t]?) : SG P ops hp H D o fr' := ⟨⟨fun I w a ho => h.want.out I w a (ho.same hl hs)⟩, fun hh ho K Q hk => h.out hh (ho.same hl hs) K Q hk⟩
def sOpG (P : Program) (ops : Array Oper) (hp : List HObj) {β : Type} (H : β -> List HObj) (D : β -> Dat) (dd : Nat -> Dat) (m : Nat) (i : Nat) (K : List Dat -> Option β -> Prop) (fr : List Dat) (c : Option β) : Prop :=
 ∃ o, ops[i]? = some o /\ ((i = m /\ c = none /\ SG P ops hp H D o fr /\ ∀ x, K (ZB fr o.dst (D x)) (some x)) \/ (i ≠ m /\ (∀ c, SYG P ops (HH hp H c) o fr (dd i)) /\ K (ZB fr o.dst (dd i)) c))
def wpAnyG (P : Program) (md : Region.Mode) (ops : Array Oper) (hp : List HObj) {β : Type} (H : β -> List HObj) (D : β -> Dat) (dd : Nat -> Dat) (m n : Nat) (L : Array Bool -> List Dat -> Option β -> Prop) : Nat -> Array Bool -> List Dat -> Option β -> Prop
 | 0, listed, fr, c => L listed fr c
 | f + 1, listed, fr, c =>
  Region.ready md ops listed ≠ [] /\ ∀ i ∈ Region.ready md ops listed, i < n /\ sOpG P ops hp H D dd m i (wpAnyG P md ops hp H D dd m n L f (listed.setIfInBounds i true)) fr c
theorem ZB7 {n g : Nat} {L : Array Bool -> List Dat -> Option β -> Prop} {Q' : Exit -> Act -> World -> Prop} {P0 : Nat -> Prop} {B : Nat} {w0 : World} : ∀ (f : Nat) (listed : Array Bool) (fr : List Dat) (c : Option β) (a : Act) (w : World), Hp P0 B w0 (HH hp H c) w -> Fr (Imm P0 B (HH hp H c)) w a fr ->
  (∀ listed fr c a w', Hp P0 B w0 (HH hp H c) w' -> Fr (Imm P0 B (HH hp H c)) w' a fr -> L listed fr c -> wpAny P md ops Q' g listed a w') -> wpAnyG P md ops hp H D dd m n L f listed fr c -> wpAny P md ops Q' (f + g) listed a w
 | 0, listed, fr, c, a, w, hh, hf, hL, h => by rw [Nat.zero_add]; exact hL _ _ _ _ _ hh hf h
 | f + 1, listed, fr, c, a, w, hh, hf, hL, h => by
  rw [show f + 1 + g = (f + g) + 1 by omega]
  refine ⟨fun h0 => absurd h0 h.1, fun i hi => ?_⟩
  obtain ⟨o, ho, h1⟩ := (h.2 i hi).2
  unfold wpOp
  simp only [ho]
  rcases h1 with ⟨hm, hc, hw, hk⟩ | ⟨hm, hs, hk⟩
  ·subst hc
   have hwant : Region.wanted o (yielded ops a.tmps) = true := hw.want.out _ _ _ (hf.on _)
   rw [if_pos hwant]
   refine .inl (hw.out hh (hf.on _) _ _ fun x v w' hh' hrd hd => ?_)
   exact ZB7 f _ _ (some x) _ _ hh' (Fr.put (hf.mono fun d u hu => hrd d u hu) hd) hL (hk x)
  ·have := (hs c).step (Q := Q') hh hf (K := wpAny P md ops Q' (f + g) (listed.setIfInBounds i true)) fun a' w' e hf' => ZB7 f _ _ c _ _ (hh.ext e) hf' hL hk
   split
   ·rename_i hw; rw [if_pos hw] at this; exact .inl this
   ·rename_i hw; rw [if_neg hw] at this; exact this
theorem wpAnyG_first {n i : Nat} {oi : Oper} {L : Array Bool -> List Dat -> Option β -> Prop} (hi : ops[i]? = some oi) (him : i ≠ m)
  (hs : Region.sinkB md ops n = true) (hc : Region.chainB md ops n = true) (hn : n < ops.size) (hin : i < n)
  (hdone : ∀ listed a c, L listed a c -> ∀ j ∈ Region.ready md ops listed, n <= j) :
  ∀ (f : Nat) (listed : Array Bool) (fr : List Dat) (c : Option β), HeadInv md ops n listed ->
   (∀ j oj, ops[j]? = some oj -> j ≠ i -> listed.getD j true = false -> (∀ e ∈ oj.after, Region.binds md e = true -> e.on ≠ i) -> oi.apart ops oj = true) ->
   i ∈ Region.ready md ops listed -> (∀ c, SYG P ops (HH hp H c) oi fr (dd i)) ->
   wpAnyG P md ops hp H D dd m n L f (listed.setIfInBounds i true) (ZB fr oi.dst (dd i)) c -> wpAnyG P md ops hp H D dd m n L (f + 1) listed fr c := by
 intro f
 induction f with
 | zero =>
  intro listed fr c inv _ hr hy H
  have hun := (mem_ready.1 hr).1
  refine ⟨fun h => (by rw [h] at hr; cases hr), fun j hj => ?_⟩
  have hjn : j < n := by
   rcases Nat.lt_or_ge j n with h | h
   ·exact h
   ·exact absurd hj (tail_waits hs hc hn inv _ i rfl hin hun j h)
  refine ⟨hjn, ?_⟩
  by_cases hji : j = i
  ·subst hji; exact ⟨oi, hi, .inr ⟨him, hy, H⟩⟩
  ·have := hdone _ _ _ H j (ready_mono hj hji)
   omega
 | succ f ih =>
  intro listed fr c inv hfree hr hy H
  have hun := (mem_ready.1 hr).1
  refine ⟨fun h => (by rw [h] at hr; cases hr), fun j hj => ?_⟩
  have hjn : j < n := by
   rcases Nat.lt_or_ge j n with h | h
   ·exact h
   ·exact absurd hj (tail_waits hs hc hn inv _ i rfl hin hun j h)
  refine ⟨hjn, ?_⟩
  by_cases hji : j = i
  ·subst hji; exact ⟨oi, hi, .inr ⟨him, hy, H⟩⟩
  ·obtain ⟨oj', hoj', h1⟩ := (H.2 j (ready_mono hj hji)).2
   obtain ⟨hjun, oj, hoj, hall⟩ := mem_ready.1 hj
   have hoo : oj = oj' := by rw [hoj] at hoj'; simpa using hoj'
   subst hoo
   have hnot : ∀ e ∈ oj.after, Region.binds md e = true -> e.on ≠ i := fun e he hb heq => by
    have h1 := hall e he hb
    rw [heq, getD_both hun] at h1
    cases h1
   obtain ⟨a1, a2, a3⟩ := Oper.apart_spec (hfree j oj hoj hji hjun hnot)
   have hfree' : ∀ k ok, ops[k]? = some ok -> k ≠ i -> (listed.setIfInBounds j true).getD k true = false ->
     (∀ e ∈ ok.after, Region.binds md e = true -> e.on ≠ i) -> oi.apart ops ok = true := fun k ok hk hki hun hno => by
    refine hfree k ok hk hki ?_ hno
    by_cases hjk : j = k
    ·subst hjk; exact hjun
    ·rw [getD_set_ne true hjk] at hun; exact hun
   have key : ∀ (d : Dat) (c' : Option β), wpAnyG P md ops hp _ D dd m n L f ((listed.setIfInBounds i true).setIfInBounds j true) (ZB (ZB fr oi.dst (dd i)) oj.dst d) c' ->
     wpAnyG P md ops hp _ D dd m n L (f + 1) (listed.setIfInBounds j true) (ZB fr oj.dst d) c' := fun d c' hk => by
    refine ih (listed.setIfInBounds j true) (ZB fr oj.dst d) c' (inv.set hj hjn) hfree' (ready_mono hr (Ne.symm hji)) (fun c => (hy c).same (ZAK _ _ _) fun t ht => ZAb fun e => a3 t e ht) ?_
    rw [Array.setIfInBounds_comm _ _ hji, <- setD_comm fr (dd i) d a2]
    exact hk
   refine ⟨oj, hoj, ?_⟩
   rcases h1 with ⟨hm, hcn, hw, hk⟩ | ⟨hm, hs', hk⟩
   ·exact .inl ⟨hm, hcn, hw.same (ZAK _ _ _).symm fun t ht => (ZAb fun e => a1 t e ht).symm, fun x => key _ _ (hk x)⟩
   ·exact .inr ⟨hm, fun c => (hs' c).same (ZAK _ _ _).symm fun t ht => (ZAb fun e => a1 t e ht).symm, key _ _ hk⟩
theorem wpAnyG_lex {n g : Nat} {Lq : List Dat -> Option β -> Prop} {ow : Oper} (how : ops[m]? = some ow) (hs : Region.sinkB md ops (m + 1) = true) (hc : Region.chainB md ops (m + 1) = true) (hn : m + 1 < ops.size) :
  ∀ (l : List Oper) (k : Nat) (listed : Array Bool) (fr : List Dat), (∀ j, j < l.length -> l[j]? = ops[k + j]?) -> k + l.length = m -> HeadInv md ops (m + 1) listed -> (∀ j, j < k -> listed.getD j true = true) ->
  Region.lexHead md ops g (l.length + 1) k listed = true -> ChD P ops hp H dd (fun fr => SG P ops hp H D ow fr /\ ∀ x, Lq (ZB fr ow.dst (D x)) (some x)) l k fr ->
  wpAnyG P md ops hp H D dd m (m + 1) (fun listed' a' c' => Region.seqB md ops g (m + 1) listed' = true /\ Lq a' c') (l.length + 1) listed fr none
 | [], k, listed, fr, hl, hk, inv, hbefore, hB, h => by
  have hkm : k = m := by simpa using hk
  subst hkm
  simp only [List.length_nil, Region.lexHead, Bool.and_eq_true] at hB
  obtain ⟨⟨hr, hf⟩, hB'⟩ := hB
  have hr' : k ∈ Region.ready md ops listed := by simpa using hr
  have hun := (mem_ready.1 hr').1
  refine ⟨fun h0 => (by rw [h0] at hr'; cases hr'), fun i hi => ?_⟩
  have hile : i < k + 1 := by
   rcases Nat.lt_or_ge i (k + 1) with h1 | h1
   ·exact h1
   ·exact absurd hi (tail_waits hs hc hn inv _ k rfl (by omega) hun i h1)
  have hik : i = k := by
   rcases Nat.lt_or_ge i k with h1 | h1
   ·have h2 := (mem_ready.1 hi).1
    rw [hbefore i h1] at h2
    cases h2
   ·omega
  subst hik
  exact ⟨by omega, ow, how, .inl ⟨rfl, rfl, h.1, fun x => ⟨hB', h.2 x⟩⟩⟩
 | o :: l, k, listed, fr, hl, hk, inv, hbefore, hB, h => by
  have h0 : ops[k]? = some o := by simpa using (hl 0 (by simp)).symm
  simp only [List.length_cons] at hB
  rw [Region.lexHead] at hB
  simp only [Bool.and_eq_true] at hB
  obtain ⟨⟨hr, hf⟩, hB'⟩ := hB
  have hkn : k < m := by simp only [List.length_cons] at hk; omega
  have hr' : k ∈ Region.ready md ops listed := by simpa using hr
  have hklt : k < listed.size := by rw [inv.size]; omega
  exact wpAnyG_first h0 (by omega) hs hc hn (by omega) (fun listed' a' c' hL => seqB_ready hL.1) (l.length + 1) listed fr none inv (Region.free_spec h0 hf) hr' h.1
   (wpAnyG_lex (n := n) how hs hc hn l (k + 1) _ _ (fun j hj => by have := hl (j + 1) (by simp; omega); simpa [Nat.add_assoc, Nat.add_comm 1 j] using this) (by simp only [List.length_cons] at hk; omega) (inv.set hr' (by omega))
    (fun j hj => by
     by_cases hjk : k = j
     ·subst hjk; simp [hklt]
     ·rw [getD_set_ne true hjk]; exact hbefore j (by omega)) hB' h.2)
theorem WC.drawG {id : Nat} {l : List Oper} {Q : Z1} (n : Nat) (H : β -> List HObj) (D : β -> Dat) (ow : Oper) (how : l[n]? = some ow) (hm : P.follows .mixedOrders = true) (hB : Region.lexTailB .any l.toArray (n + 1) = true)
  (h : WDs P l.toArray hp H (fun f => SG P l.toArray hp H D ow f /\ ∀ x, WL P l.toArray Q (l.drop (n + 1)) (ZB f ow.dst (D x)) (H x)) (l.take n) fr) : WC P Q (.region id l.toArray true) fr hp := by
 refine WC.of fun P0 B w0 w a hh hf => ?_
 simp only [Region.lexTailB, Bool.and_eq_true, decide_eq_true_eq] at hB
 obtain ⟨⟨⟨⟨hsel, hn⟩, hs⟩, hc⟩, hlex⟩ := hB
 have hn' : n + 1 < l.length := by simpa using hn
 have htl : (l.take n).length = n := by simp; omega
 have hdl : (l.drop (n + 1)).length = l.toArray.size - (n + 1) := by simp
 have inv0 : HeadInv .any l.toArray (n + 1) (Array.replicate l.toArray.size false) :=
  ⟨by simp, fun j oj _ hl => (by rw [getD_replicate_false] at hl; cases hl), fun t _ ht => getD_in (by simpa using ht) (getD_replicate_false _ _)⟩
 obtain ⟨dd, hch⟩ := h.ch (l.take n) 0 fr
 have HW := wpAnyG_lex (n := n) (Lq := fun f c => WL P l.toArray Q (l.drop (n + 1)) f (HH hp H c)) (md := .any) (g := l.toArray.size - (n + 1)) (ow := ow) (m := n) (by simpa using how) hs hc hn (l.take n) 0 _ fr (fun j hj => by
  have hj' : j < n := by rw [htl] at hj; exact hj
  simp [hj']) (by simpa using htl) inv0 (fun j hj => by omega) (by rw [htl]; exact hlex) hch
 have hx : Ext w { w with drawn := w.drawn + 1 } := (Ext.refl w).drew
 refine wp_region_any hm ?_
 have := ZB7 (Q' := ZBv Q P0 B w0) (g := l.toArray.size - (n + 1)) _ _ _ none _ _ (hh.ext hx) (hf.ext hx) (fun listed fr' c a' w' hh' hf' hL => by
  have := wpAny_of_seq (md := .any) (Q' := ZBv Q P0 B w0) (l.drop (n + 1)) (n + 1) listed a' w' (fun j => by simp [List.getElem?_drop]) (by rw [hdl]; exact hL.1) (hL.2.on hh' hf')
  rwa [hdl] at this) HW
 rw [htl, show n + 1 + (l.toArray.size - (n + 1)) = l.toArray.size by omega] at this
 exact this
end
section
variable {P : Program} {ops : Array Oper} {hp : List HObj} {fr : List Dat} {dst : Option Tmp} {ty : TypeId} {ps : String} {af : Array Edge} {t e : TypeId} {z : Value} {bytes : Nat} {ag : Bool} {gd : Option (Nat × Bool)}
abbrev ForkB {α : Type} (v : Value) (xs : List α) : Type := {p : Nat × Nat // v = .slice (some ⟨p.1, 0, none⟩) xs.length p.2 /\ xs.length + 1 <= p.2} ⊕ Value
abbrev forkH {α : Type} (R : Rel α) [Good R] (e : TypeId) (v : Value) (xs : List α) (y : α) (hp : List HObj) : ForkB v xs -> List HObj
 | .inl p => hQ p.1.1 (xs.length + 1) p.1.2 e R (xs ++ [y]) :: hp
 | .inr v' => ZU v' e R (xs ++ [y]) :: ZU v e R xs :: hp
abbrev forkD {α : Type} {v : Value} {xs : List α} : ForkB v xs -> Dat
 | .inl p => dX (.slice (some ⟨p.1.1, 0, none⟩) (xs.length + 1) p.1.2)
 | .inr v' => dX v'
theorem SG.pushFork {s y : Operand} (E : ElT P t e 1 z bytes ag) {α : Type} {R : Rel α} {_gR : Good R} {v : Value} {xs : List α} {y0 : α}
  (hw : WantS ops { dst := dst, op := .call { callee := .builtin .append, args := #[s, y], argTypes := #[t, t] }, type := ty, pos := ps, after := af, guard := gd } fr true)
  (hs : OpD fr s (dX v)) (hy : OpD fr y (dS (Arr R) [y0])) (hby : 0 < bytes) (hlen : (xs.length + 1) * bytes <= 140737488355328) :
  SG P ops (ZU v e R xs :: hp) (forkH R e v xs y0 hp) (forkD (v := v) (xs := xs)) { dst := dst, op := .call { callee := .builtin .append, args := #[s, y], argTypes := #[t, t] }, type := ty, pos := ps, after := af, guard := gd } fr := ⟨hw, fun {P0 B w0 w a} hh ho K Q hk => by
 obtain ⟨ad, cap0, hv0, c1, c2, c3⟩ := (hy.get (by simp [Op.operands, Call.operands]) ho : Arr R _ _ _ _)
 obtain ⟨yv, yb, yoff, hyr, hone, had, hyb, hyc⟩ := c3 0 (by simp)
 simp only [List.getElem_cons_zero] at hyr
 subst had
 have hse : a.eval s = v := hs.get (by simp [Op.operands, Call.operands]) ho
 have hm : xs.length + 1 <= maxLen := by
  have : (xs.length + 1) * 1 <= (xs.length + 1) * bytes := Nat.mul_le_mul_left _ hby
  simp only [maxLen]; omega
 have hcell : ∀ j u, [yv][j]? = some u -> w.cell? ((⟨yb, yoff, none⟩ : Addr).add j) = some u := fun j u hu => by
  have hj : j = 0 := by have := (List.getElem?_eq_some_iff.1 hu).1; simpa using this
  subst hj
  cases hu
  rw [Addr.add_lit]
  exact hyc
 have hones : ∀ u ∈ [yv], u.oneCell' = true := fun u hu => by rw [List.mem_singleton.1 hu]; exact hone
 have hrun : ∀ (v' : Value) (w' : World), (Builtin.append_ #[t, t] ty #[v, .slice (some ⟨yb, yoff, none⟩) 1 cap0]).run P w = .ok v' w' -> (execOp a.eval { dst := dst, op := .call { callee := .builtin .append, args := #[s, y], argTypes := #[t, t] }, type := ty, pos := ps, after := af, guard := gd }).run P w = .ok (.value v') w' := fun v' w' hr => by
  have hv1 : a.eval y = .slice (some ⟨yb, yoff, none⟩) 1 cap0 := hv0
  unfold execOp
  simp only [resolve, invoke, builtin, List.map_toArray, List.map_cons, List.map_nil, hse, hv1, Sem.run_bind, Sem.run_pure, Result.andThen_ok, hr]
 obtain ⟨i0, hi, hz, hsz, hbt⟩ := info_parts E.info
 obtain ⟨us, u1, ⟨u2, u3⟩, u4⟩ := (ZU v e R xs).bound (hh.ok (ZU v e R xs) (by simp))
 rcases u3 with ⟨hv, hz0⟩ | ⟨g, cap, cur, hv, hB, hg, hc1, hc2, hc3, hc4⟩
 ·have hx0 : xs = [] := by
   apply List.eq_nil_of_length_eq_zero
   omega
  subst hx0
  obtain ⟨v', w', hr, r1, r2, r3⟩ := ZBN (ty := ty) E hh (ad := ⟨yb, yoff, none⟩) (c := cap0) (ys := [y0]) (news := [yv]) rfl hcell hones (fun j h1 h2 => by
    have hj : j = 0 := by simp at h1; omega
    subst hj
    exact hyr) (by simpa using hlen) (by simpa using hm)
  unfold Oper.wp
  rw [hrun _ _ hr]
  subst hv
  have h2 : Hp P0 B w0 (ZU (.slice none 0 0) e R [] :: ZU v' e R ([] ++ [y0]) :: hp) w' := r1.push (Ext.refl _) (by simp [ZU, Value.ownBlock]) Own.nil
  obtain ⟨h3, hI⟩ := h2.perm (List.Perm.swap _ _ _)
  refine hk (.inr v') v' w' h3 (fun d u hd => ?_) rfl
  have h4 := Za (o := ZU (.slice none 0 0) e R []) (hp := ZU v' e R ([] ++ [y0]) :: hp) (Ext.refl w') (by simp [ZU, Value.ownBlock]) (ZI (o := ZU (.slice none 0 0) e R []) (o' := ZU v' e R ([] ++ [y0])) r2 r3 hd)
  exact d.weak h4 fun k hk => (hI k).1 hk
 ·subst hv
  rw [Nat.mul_one] at hc3 hc4
  have hlu : us.length = xs.length := u1
  have hcl : xs.length <= cur.toList.length := by simp; omega
  have hold : ∀ j u, us[j]? = some u -> w.cell? ((⟨g, 0, none⟩ : Addr).add j) = some u := fun j u hj => by
   have hlt := (List.getElem?_eq_some_iff.1 hj).1
   rw [<- hc4, List.getElem?_take, if_pos (by omega)] at hj
   rw [Addr.add_lit, Nat.zero_add]
   simp only [World.cell?, hg]
   simpa using hj
  by_cases hroom : xs.length + 1 <= cap
  ·have hin : xs.length < cur.size := by omega
   have hr := run_append_room_cells (P := P) w t ty e i0 E.und hi g 0 xs.length cap ⟨yb, yoff, none⟩ 1 cap0 [yv] (by simp [hsz]) hcell hones hroom (fun j hj => by
    have hj0 : j = 0 := by simp at hj; omega
    subst hj0
    rw [hsz]
    simp [World.cell?, hg, hin]) (fun j hj => by simp [World.frozen?, hg])
   rw [hsz, Nat.zero_add, Nat.mul_one] at hr
   unfold Oper.wp
   rw [hrun _ _ hr]
   have hgr : w.grownBy (w.setCells g xs.length [yv]) (some g) := row_grown
   have hsplit : cur = (cur.toList.take xs.length ++ (cur.toList.drop xs.length).take 1 ++ cur.toList.drop (xs.length + 1)).toArray := by
    apply Array.ext'
    show cur.toList = _
    rw [List.append_assoc, <- List.drop_drop, List.take_append_drop, List.take_append_drop]
   have hg2 : (w.setCells g xs.length [yv]).heap[g]? = some (.cells (cur.toList.take xs.length ++ [yv] ++ cur.toList.drop (xs.length + 1)).toArray e (0, 0)) := by
    have := ZAO (g := g) (e := e) (fz := (0, 0)) [yv] ((cur.toList.drop xs.length).take 1) (cur.toList.take xs.length) (cur.toList.drop (xs.length + 1)) w (by simp; omega) (by rw [<- hsplit]; exact hg)
    rwa [List.length_take, Nat.min_eq_left hcl] at this
   have hmv : ∀ (u : Value) (q : α), R (fun j => (Imm P0 B (ZU (.slice (some ⟨g, 0, none⟩) xs.length cap) e R xs :: hp) j /\ j < w.heap.size) /\ j ≠ g) w u q -> R (fun j => (Imm P0 B (ZU (.slice (some ⟨g, 0, none⟩) xs.length cap) e R xs :: hp) j /\ j < w.heap.size) /\ (Value.slice (some ⟨g, 0, none⟩) (xs.length + 1) cap).ownBlock ≠ some j) (w.setCells g xs.length [yv]) u q := fun u q hq =>
    Good.weak (Good.move hq fun j hj hlt => hgr.block j hlt fun he => hj.2 (by cases he; rfl)) fun j hj => ⟨hj.1, fun he => hj.2 (by cases he; rfl)⟩
   have hok : (hQ g (xs.length + 1) cap e R (xs ++ [y0])).ok (fun j => Imm P0 B (ZU (.slice (some ⟨g, 0, none⟩) xs.length cap) e R xs :: hp) j /\ j < w.heap.size) (w.setCells g xs.length [yv]) := by
    have hl2 : (us ++ [yv]).length = (xs ++ [y0]).length := by rw [List.length_append, List.length_append, hlu]; rfl
    refine ⟨us ++ [yv], hl2, ⟨by rw [hl2, Nat.mul_one], .inr ⟨g, cap, _, by rw [List.length_append]; rfl, Nat.zero_le _, hg2, by rw [List.length_append]; exact hroom, hc2, ?_, ?_⟩⟩, fun j h1 h2 => ?_⟩
    ·rw [List.size_toArray]
     simp only [List.length_append, List.length_take, List.length_drop, List.length_singleton, Array.length_toList]
     omega
    ·rw [Nat.mul_one, hc4, List.length_append, List.length_singleton, <- hlu]
     show ((us ++ [yv]) ++ _).take _ = _
     rw [List.take_left' (by simp)]
    ·by_cases hj : j < us.length
     ·rw [List.getElem_append_left hj, List.getElem_append_left (by omega)]
      obtain ⟨q1, q2⟩ := u4 j hj (by omega)
      exact ⟨q1, hmv _ _ (Good.weak q2 fun b hb => ⟨hb.1, fun he => hb.2 (by rw [he]; rfl)⟩)⟩
     ·have hj2 : j = us.length := by simp at h1; omega
      subst hj2
      rw [List.getElem_append_right (Nat.le_refl _), List.getElem_append_right (by omega)]
      simp only [Nat.sub_self, hlu, List.getElem_cons_zero]
      exact ⟨hone, hmv _ _ (Good.weak (Good.bound hyr) fun b hb => ⟨hb, fun he => hb.1.2 (ZU (.slice (some ⟨g, 0, none⟩) xs.length cap) e R xs) (by simp) (by rw [he]; rfl)⟩)⟩
   exact hk (.inl ⟨(g, cap), rfl, hroom⟩) _ _ (hh.write hgr (.inl rfl) hok) (fun d u hd => ZI (o := ZU (.slice (some ⟨g, 0, none⟩) xs.length cap) e R xs) (o' := hQ g (xs.length + 1) cap e R (xs ++ [y0])) hgr (.inl rfl) hd) rfl
  ·obtain ⟨v', w', hr, r1, r2⟩ := run_append_arg_grows (P := P) w t ty e i0 z 1 bytes E.und hi hz hsz hbt E.zs Nat.one_pos ⟨g, 0, none⟩ xs.length cap us (by omega) hold ⟨yb, yoff, none⟩ 1 cap0 [yv] rfl hcell (by omega) hm hlen
   unfold Oper.wp
   rw [hrun _ _ hr]
   have hx2 : Ext w w' := ⟨r2.os, r2.tape, r2.output, r2.size, fun k hk => r2.block k hk (by simp)⟩
   have hob : ∀ k, (ZU v' e R (xs ++ [y0])).blk = some k -> w.heap.size <= k /\ k < w'.heap.size := fun k hk => r1.lt k hk
   have hok : (ZU v' e R (xs ++ [y0])).ok (fun k => Imm P0 B (ZU (.slice (some ⟨g, 0, none⟩) xs.length cap) e R xs :: hp) k /\ k < w.heap.size) w' := by
    have hl2 : (xs ++ [y0]).length = xs.length + 1 := by simp
    have hbk : ∀ b, v'.ownBlock = some b -> w.heap.size <= b := fun b hb => (hob b hb).1
    obtain ⟨q1, q2⟩ := r1
    refine ⟨us ++ [yv], by simp [hlu], ⟨by rw [hl2]; exact q1, ?_⟩, fun j h1 h2 => ?_⟩
    ·rw [hl2]
     rcases q2 with ⟨z1, z2⟩ | ⟨g', c', cur', z1, _, z3⟩
     ·exact .inl ⟨z1, z2⟩
     ·exact .inr ⟨g', c', cur', z1, Nat.zero_le _, z3⟩
    ·by_cases hj : j < us.length
     ·rw [List.getElem_append_left hj, List.getElem_append_left (by omega)]
      obtain ⟨p1, p2⟩ := u4 j hj (by omega)
      exact ⟨p1, Good.ext (R := R) (Good.weak p2 fun b hb => ⟨hb.1, fun he => Nat.lt_irrefl _ (Nat.lt_of_lt_of_le hb.1.2 (hbk b he))⟩) hx2⟩
     ·have hj2 : j = us.length := by simp at h1; omega
      subst hj2
      rw [List.getElem_append_right (Nat.le_refl _), List.getElem_append_right (by omega)]
      simp only [Nat.sub_self, hlu, List.getElem_cons_zero]
      exact ⟨hone, Good.ext (R := R) (Good.weak (Good.bound hyr) fun b hb => ⟨hb, fun he => Nat.lt_irrefl _ (Nat.lt_of_lt_of_le hb.2 (hbk b he))⟩) hx2⟩
   exact hk (.inr v') v' w' (hh.push hx2 hob hok) (fun d u hd => Za (o := ZU v' e R (xs ++ [y0])) hx2 (fun k hk => (hob k hk).1) hd) rfl⟩
end
end
section
theorem bv_cast {a : Nat} (h : a < 9223372036854775808) : (BitVec.ofInt 64 (a : Int)).toNat = a := by
 rw [BitVec.ofInt_natCast, BitVec.toNat_ofNat]
 exact Nat.mod_eq_of_lt (by omega)
theorem wrap_cast {a : Nat} (h : a < 9223372036854775808) : IntKind.i64.wrap (a : Int) = (a : Int) := wrap_in (by omega)
theorem iand_cast {a b : Nat} (ha : a < 9223372036854775808) (hb : b < 9223372036854775808) : iand (a : Int) (b : Int) = ((a &&& b : Nat) : Int) := by
 unfold iand
 rw [BitVec.toNat_and, bv_cast ha, bv_cast hb]
 exact wrap_cast (Nat.lt_of_le_of_lt Nat.and_le_left ha)
theorem or_lt {a b : Nat} (ha : a < 9223372036854775808) (hb : b < 9223372036854775808) : a ||| b < 9223372036854775808 :=
 Nat.or_lt_two_pow (n := 63) ha hb
theorem ior_cast {a b : Nat} (ha : a < 9223372036854775808) (hb : b < 9223372036854775808) : ior (a : Int) (b : Int) = ((a ||| b : Nat) : Int) := by
 unfold ior
 rw [BitVec.toNat_or, bv_cast ha, bv_cast hb]
 exact wrap_cast (or_lt ha hb)
theorem bv_andnot (x y : BitVec 64) : x &&& ~~~ y = x ^^^ (x &&& y) := by
 apply BitVec.eq_of_getLsbD_eq
 intro i hi
 simp only [BitVec.getLsbD_and, BitVec.getLsbD_not, BitVec.getLsbD_xor]
 cases x.getLsbD i <;> cases y.getLsbD i <;> simp [hi]
theorem iandnot_cast {a b : Nat} (ha : a < 9223372036854775808) (hb : b < 9223372036854775808) : iandnot (a : Int) (b : Int) = ((a ^^^ (a &&& b) : Nat) : Int) := by
 unfold iandnot
 rw [bv_andnot, BitVec.toNat_xor, BitVec.toNat_and, bv_cast ha, bv_cast hb]
 exact wrap_cast (Nat.xor_lt_two_pow (n := 63) ha (Nat.lt_of_le_of_lt Nat.and_le_left ha))
theorem shr_cast {a k : Nat} (hk : k <= 64) : ishr (a : Int) (k : Int) = ((a >>> k : Nat) : Int) := by
 unfold ishr
 rw [Int.toNat_natCast, Nat.min_eq_left hk, Nat.shiftRight_eq_div_pow]
 have : (2 : Int) ^ k = ((2 ^ k : Nat) : Int) := by rw [Int.natCast_pow]; rfl
 rw [this]
 exact Int.ofNat_fdiv a (2 ^ k) |>.symm
theorem mask_rest {n all rest b : Nat} (h1 : all ||| rest = 2 ^ n - 1) (h2 : all &&& rest = 0) (hb : b < 2 ^ n) : b &&& rest = b ↔ all &&& b = 0 := by
 have key : ∀ i, (all.testBit i || rest.testBit i) = decide (i < n) := fun i => by rw [<- Nat.testBit_or, h1, Nat.testBit_two_pow_sub_one]
 have dis : ∀ i, (all.testBit i && rest.testBit i) = false := fun i => by rw [<- Nat.testBit_and, h2, Nat.zero_testBit]
 constructor
 ·intro h
  apply Nat.eq_of_testBit_eq
  intro i
  have e := congrArg (fun x => x.testBit i) h
  simp only [Nat.testBit_and] at e
  rw [Nat.testBit_and, Nat.zero_testBit]
  have d := dis i
  cases ha : all.testBit i <;> cases hr : rest.testBit i <;> cases hbi : b.testBit i <;> simp_all
 ·intro h
  apply Nat.eq_of_testBit_eq
  intro i
  have e := congrArg (fun x => x.testBit i) h
  simp only [Nat.testBit_and, Nat.zero_testBit] at e
  rw [Nat.testBit_and]
  have k := key i
  by_cases hi : i < n
  ·rw [decide_eq_true hi] at k
   cases ha : all.testBit i <;> cases hr : rest.testBit i <;> cases hbi : b.testBit i <;> simp_all
  ·have : b.testBit i = false := Nat.testBit_lt_two_pow (Nat.lt_of_lt_of_le hb (Nat.pow_le_pow_right (by decide) (by omega)))
   rw [this]; rfl
end
end Go.Proofs.YtmcllakdbgnfiaaGreatDoor
