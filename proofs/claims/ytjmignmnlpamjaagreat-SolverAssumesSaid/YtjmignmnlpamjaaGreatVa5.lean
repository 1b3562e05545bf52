/- Part 5: walks by contracts, and plain laws. -/
import Derived.Deep.Upon
import Derived.StillTail
import Derived.Test.YtjmignmnlpamjaaGreatVa4
set_option linter.unusedVariables false
set_option linter.unusedSimpArgs false
set_option linter.unusedSectionVars false
set_option maxRecDepth 100000
set_option maxHeartbeats 4000000
namespace Go.Proofs.YtjmignmnlpamjaaGreat
section
open Go.RowKit

section
variable {P : Program} {ops : Array Oper} {hp : List HObj} {o : Oper} {fr : List Dat} {d : Dat} {Q : ZAb} {rest : List Oper}
variable {dst : Option Tmp} {ty : TypeId} {ps : String} {af : Array Edge} {g : Option (Nat × Bool)}
variable {t e : TypeId} {n bytes : Nat} {z : Value} {ag : Bool}

theorem ZOI {w : World} {base : Nat} {v : Value} {m size : Nat} {cs : List Value} (h : w.ownsRow base e size v m cs) {k : Nat} (hk : v.ownBlock = some k) : k < w.heap.size := (h.lt k hk).2

theorem ZGp {α : Type} {R : Rel α} [Good R] {P0 : Nat -> Prop} {B : Nat} {w w' : World} {ob : HObj} {v' : Value} (hg : w.grownBy w' ob.blk) (hat : v'.ownBlock = ob.blk \/ v'.ownBlock = some w.heap.size) {u : Value} {x : α} (h : R (Imm P0 B (ob :: hp)) w u x) :
  R (fun b => (Imm P0 B (ob :: hp) b /\ b < w.heap.size) /\ v'.ownBlock ≠ some b) w' u x := by
 have h1 := Good.grown (Good.bound h) hg (fun k hk hc => hc.1.2 ob (by simp) hk)
 refine Good.weak h1 fun b hb => ⟨hb, fun hc => ?_⟩
 rcases hat with h' | h'
 ·rw [h'] at hc; exact hb.1.2 ob (by simp) hc
 ·rw [h'] at hc; cases hc; exact absurd hb.2 (Nat.lt_irrefl _)

theorem ZEa (E : ElT P t e 1 z bytes ag) {α : Type} {R : Rel α} [Good R] {P0 : Nat -> Prop} {B : Nat} {w0 w : World} {v : Value} {xs ys : List α} (hh : Hp P0 B w0 (ZS v e R xs :: hp) w) {ad : Addr} {c : Nat} {news : List Value} (hl : news.length = ys.length)
  (hc : ∀ j u, news[j]? = some u -> w.cell? (ad.add j) = some u) (hu : ∀ u ∈ news, u.oneCell' = true) (hy : ∀ (k : Nat) (h : k < news.length) (h' : k < ys.length), R (Imm P0 B (ZS v e R xs :: hp)) w news[k] ys[k])
  (hlen : (xs.length + ys.length) * bytes ≤ 140737488355328) (hm : xs.length + ys.length ≤ maxLen) :
  ∃ v' w', (Builtin.append_ #[t, t] ty #[v, .slice (some ad) ys.length c]).run P w = .ok v' w' /\ Hp P0 B w0 (ZS v' e R (xs ++ ys) :: hp) w' /\ w.grownBy w' v.ownBlock /\ (v'.ownBlock = v.ownBlock \/ ∀ k, v'.ownBlock = some k -> w.heap.size ≤ k) := by
 obtain ⟨us, hul, ho, he⟩ := hh.ok (ZS v e R xs) (by simp)
 obtain ⟨i, hi, hz, hsz, hb⟩ := info_parts E.info
 obtain ⟨v', w', hr, r1, r2, r3, r4⟩ := run_append_own_at (P := P) w 0 t ty e i z 1 bytes E.und hi hz hsz hb E.zs Nat.one_pos v xs.length us ho ad ys.length c news (by omega) hc hu hm hlen (Nat.zero_le _)
 have hat' : v'.ownBlock = (ZS v e R xs).blk \/ v'.ownBlock = some w.heap.size := r4
 refine ⟨v', w', hr, hh.write (o' := ZS v' e R (xs ++ ys)) r2 ?_ ?_, r2, r4.imp id fun h k hk => by rw [h] at hk; cases hk; exact Nat.le_refl _⟩
 ·rcases r4 with h | h
  ·exact .inl h
  ·refine .inr fun k hk => ?_
   have hk' : v'.ownBlock = some k := hk
   rw [h] at hk'; cases hk'
   exact ⟨Nat.le_refl _, ZOI r1 h⟩
 ·refine ⟨us ++ news, by simp [hul, hl], by rw [List.length_append]; exact r1, fun k h h' => ?_⟩
  by_cases hk : k < us.length
  ·have hk' : k < xs.length := by omega
   rw [List.getElem_append_left hk, List.getElem_append_left hk']
   exact ⟨(he k hk hk').1, ZGp r2 hat' (Good.weak (he k hk hk').2 fun b hb => hb.1)⟩
  ·have e1 : k - us.length < news.length := by rw [List.length_append] at h; omega
   have e2 : k - xs.length < ys.length := by rw [List.length_append] at h'; omega
   rw [List.getElem_append_right (by omega), List.getElem_append_right (by omega)]
   have := hy (k - us.length) e1 (by omega)
   have e3 : k - us.length = k - xs.length := by rw [hul]
   simp only [e3] at this ⊢
   exact ⟨hu _ (List.getElem_mem (by omega)), ZGp r2 hat' this⟩

theorem ZHa {a : Act} {k : Tmp} {u : Value} {x : Operand} (h : x ≠ .tmp k) : (a.put (some k) u).eval x = a.eval x := by
 cases x with
 | tmp t =>
  have : k ≠ t := fun e => h (by rw [e])
  simp [Act.eval, Act.put, Array.getD_eq_getD_getElem?, this]
 | _ => rfl
theorem ZFz {a : Act} {k : Tmp} {u : Value} (h : k < a.tmps.size) : (a.put (some k) u).eval (.tmp k) = u := by
 simp [Act.eval, Act.put, Array.getD_eq_getD_getElem?, h]
theorem ZFA {a : Act} {w w' : World} {s y : Operand} {v yv v' : Value} {dst2 : Option Tmp} {ty2 : TypeId} {Qa : Exit -> Act -> World -> Prop} (hs : a.eval s = v) (hy : a.eval y = yv) (hr : (Builtin.append_ #[t, t] ty2 #[v, yv]).run P w = .ok v' w') (hk : wpList P ops Qa rest (a.put dst2 v') w') :
  wpList P ops Qa (⟨dst2, .call { callee := .builtin .append, args := #[s, y], argTypes := #[t, t] }, ty2, ps, af, none⟩ :: rest) a w := by
 refine Z6 rfl (v := v') (w' := w') ?_ hk
 unfold execOp
 simp only [resolve, invoke, builtin, List.map_toArray, List.map_cons, List.map_nil, hs, hy, Sem.run_bind, Sem.run_pure, Result.andThen_ok, hr]

theorem ZAS {s x : Operand} {k : Tmp} {dst2 : Option Tmp} {ty2 : TypeId} {ps2 : String} {af2 : Array Edge} (E : ElT P t e 1 z bytes ag) {α : Type} {R : Rel α} {_gR : Good R} {v : Value} {xs : List α} {y : α} (hs : OpD fr s (dX v)) (hx : OpD fr x (dS R y)) (hsh : ∀ a, (dS R a).Shape 1 false) (hne : s ≠ .tmp k) (hkl : k < fr.length) (hby : 0 < bytes)
  (hlen : (xs.length + 1) * bytes ≤ 140737488355328) (h : ∀ v', WL P ops Q rest (ZB (fr.set k dA) dst2 (dX v')) (ZS v' e R (xs ++ [y]) :: hp)) :
  WL P ops Q (⟨some k, .buildSlice t 1 #[(0, x)], ty, ps, af, none⟩ :: ⟨dst2, .call { callee := .builtin .append, args := #[s, .tmp k], argTypes := #[t, t] }, ty2, ps2, af2, none⟩ :: rest) fr (ZS v e R xs :: hp) := by
 refine WL.of fun P0 B w0 w a hh hf => ?_
 have hxr := hx.ev hf
 obtain ⟨cs, k1, k0, k2, k3, k4⟩ := hsh y _ _ _ hxr
 simp only [Bool.false_eq_true, if_false] at k4
 subst k4
 have hb := ZDs (w := w) E (us := [a.eval x]) (css := [[a.eval x]]) rfl (fun i u cs' hu hcs => by
  cases i with
  | zero => cases hu; cases hcs; exact ⟨k3, k1⟩
  | succ i => simp at hu) (by simp)
 refine Z6 rfl (v := .slice (some ⟨w.heap.size, 0, none⟩) 1 1) (w' := w.alloc (.cells [[a.eval x]].flatten.toArray e)) ?_ ?_
 ·unfold execOp
  simp only [List.map_toArray, List.map_cons, List.map_nil, Sem.run_bind]
  have : (Instr.buildSlice t 1 #[(0, a.eval x)]).run P w = .ok (.slice (some ⟨w.heap.size, 0, none⟩) 1 1) (w.alloc (.cells [[a.eval x]].flatten.toArray e)) := hb
  simp only [this, Result.andThen_ok, Sem.run_pure]
 have hxe := ZF w (.cells [[a.eval x]].flatten.toArray e)
 have hh1 := hh.ext hxe
 have hf1 : Fr (Imm P0 B (ZS v e R xs :: hp)) (w.alloc (.cells [[a.eval x]].flatten.toArray e)) (a.put (some k) (.slice (some ⟨w.heap.size, 0, none⟩) 1 1)) (fr.set k dA) := Fr.put (x := some k) (hf.ext hxe) (d := dA) trivial
 have hm : xs.length + [y].length ≤ maxLen := by
  have : (xs.length + 1) * 1 ≤ (xs.length + 1) * bytes := Nat.mul_le_mul_left _ hby
  simp only [maxLen, List.length_cons, List.length_nil]; omega
 obtain ⟨v', w', hr, r1, r2, r3⟩ := ZEa (ty := ty2) E hh1 (ad := ⟨w.heap.size, 0, none⟩) (c := 1) (ys := [y]) (news := [a.eval x]) rfl (fun j u hu => by
   rw [Addr.add_lit, cell_of_row _ _ _ _ _ _ (ZAT w _), Nat.zero_add]
   simpa using hu) k2 (fun j h1 h2 => by
   have hj : j = 0 := by simp at h1; omega
   subst hj
   exact Good.ext (R := R) hxr hxe) (by simpa using hlen) hm
 refine ZFA (v := v) (yv := .slice (some ⟨w.heap.size, 0, none⟩) 1 1) ?_ (ZFz (by rw [hf.size]; exact hkl)) hr ?_
 ·rw [ZHa hne]; exact hs.ev hf
 ·exact (h v').on r1 (Fr.put (x := dst2) (hf1.mono fun d _ hd => Z9 (o := ZS v e R xs) (o' := ZS v' e R (xs ++ [y])) r2 r3 hd) (d := dX v') rfl)

theorem WL.app1 {s y : Operand} {dst2 : Option Tmp} {ty2 : TypeId} {ps2 : String} {af2 : Array Edge} (E : ElT P t e 1 z bytes ag) {α : Type} {R : Rel α} {_gR : Good R} {v : Value} {xs ys : List α} (hs : OpD fr s (dX v)) (hy : OpD fr y (dS (Arr R) ys)) (hby : 0 < bytes)
  (hlen : (xs.length + ys.length) * bytes ≤ 140737488355328) (h : ∀ v', WL P ops Q rest (ZB fr dst2 (dX v')) (ZS v' e R (xs ++ ys) :: hp)) :
  WL P ops Q (⟨dst2, .call { callee := .builtin .append, args := #[s, y], argTypes := #[t, t] }, ty2, ps2, af2, none⟩ :: rest) fr (ZS v e R xs :: hp) := by
 refine WL.of fun P0 B w0 w a hh hf => ?_
 obtain ⟨ad, cap, hv, c1, c2, c3⟩ := (hy.ev hf : Arr R _ _ _ _)
 have hm : xs.length + ys.length ≤ maxLen := by
  have : (xs.length + ys.length) * 1 ≤ (xs.length + ys.length) * bytes := Nat.mul_le_mul_left _ hby
  simp only [maxLen]; omega
 cases ad with
 | none =>
  have hy0 : ys = [] := by
   cases ys with
   | nil => rfl
   | cons y ys => obtain ⟨_, _, _, _, _, hc, _⟩ := c3 0 (by simp); cases hc
  subst hy0
  obtain ⟨us, _, ho, _⟩ := hh.ok (ZS v e R xs) (by simp)
  refine ZFA (v := v) (yv := _) (hs.ev hf) hv (ZCm E ho cap) ?_
  have := h v
  rw [List.append_nil] at this
  exact this.on hh (Fr.put hf rfl)
 | some ad =>
  have hch : ∀ k : Nat, ∃ u : Value, ∀ h : k < ys.length, w.cell? (ad.add k) = some u /\ u.oneCell' = true /\ R (Imm P0 B (ZS v e R xs :: hp)) w u ys[k] := fun k => by
   by_cases hk : k < ys.length
   ·obtain ⟨u, b, off, r1, r2, r3, r4, r5⟩ := c3 k hk
    cases r3
    exact ⟨u, fun _ => ⟨by rw [Addr.add_lit]; exact r5, r2, r1⟩⟩
   ·exact ⟨undef, fun h => absurd h hk⟩
  obtain ⟨f, hfch⟩ := Classical.axiomOfChoice hch
  obtain ⟨v', w', hr, r1, r2, r3⟩ := ZEa (ty := ty2) E hh (ad := ad) (c := cap) (ys := ys) (news := (List.range ys.length).map f) (by simp) (fun j u hu => by
    obtain ⟨hjl, hju⟩ := List.getElem?_eq_some_iff.1 hu
    simp at hjl hju
    subst hju
    exact (hfch j hjl).1) (fun u hu => by
    simp only [List.mem_map, List.mem_range] at hu
    obtain ⟨j, hj, rfl⟩ := hu
    exact (hfch j hj).2.1) (fun k h1 h2 => by
    simp only [List.getElem_map, List.getElem_range]
    exact (hfch k h2).2.2) hlen hm
  refine ZFA (v := v) (yv := _) (hs.ev hf) hv hr ?_
  exact (h v').on r1 (Fr.put (x := dst2) (hf.mono fun d _ hd => Z9 (o := ZS v e R xs) (o' := ZS v' e R (xs ++ ys)) r2 r3 hd) (d := dX v') rfl)
theorem ZIk (E : ElT P t e 1 z bytes ag) {α : Type} (R : Rel α) [Good R] (h : ∀ v, WL P ops Q rest (ZB fr dst (dX v)) (ZS v e R ([] : List α) :: hp)) : WL P ops Q (⟨dst, .buildSlice t 0 #[], ty, ps, af, none⟩ :: rest) fr hp := by
 refine WL.of fun P0 B w0 w a hh hf => ?_
 have hb := ZDs (w := w) E (us := []) (css := []) rfl (fun i u cs' hu hcs => by simp at hu) (by simp)
 refine Z6 rfl (v := .slice (some ⟨w.heap.size, 0, none⟩) 0 0) (w' := w.alloc (.cells #[] e)) ?_ ?_
 ·unfold execOp
  simp only [List.map_toArray, List.map_nil, Sem.run_bind]
  have : (Instr.buildSlice t 0 #[]).run P w = .ok (.slice (some ⟨w.heap.size, 0, none⟩) 0 0) (w.alloc (.cells #[] e)) := hb
  simp only [this, Result.andThen_ok, Sem.run_pure]
 have hx := ZF w (.cells #[] e)
 have hob : ∀ k, (ZS (.slice (some ⟨w.heap.size, 0, none⟩) 0 0) e R ([] : List α)).blk = some k -> w.heap.size ≤ k /\ k < (w.alloc (.cells #[] e)).heap.size := fun k hk => by
  cases hk
  exact ⟨Nat.le_refl _, by simp⟩
 refine (h _).on (hh.push (o := ZS (.slice (some ⟨w.heap.size, 0, none⟩) 0 0) e R ([] : List α)) hx hob ⟨[], rfl, ?_, fun k h => absurd h (Nat.not_lt_zero k)⟩) (Fr.put (hf.mono fun d _ hd => ZAZ hx (fun k hk => (hob k hk).1) hd) rfl)
 refine ⟨by simp, .inr ⟨w.heap.size, 0, #[], rfl, Nat.zero_le _, ZAT w _, by simp, by simp [maxLen], by simp, by simp⟩⟩
theorem ZBv {α : Type} {R : Rel α} [Good R] {P0 : Nat -> Prop} {B : Nat} {w0 w : World} {v : Value} {xs : List α} (hh : Hp P0 B w0 (ZS v e R xs :: hp) w) : Arr R (Imm P0 B hp) w v xs := by
 obtain ⟨us, hl, ho, he⟩ := hh.ok (ZS v e R xs) (by simp)
 obtain ⟨a, cap, hv, h1, h2, h3⟩ := Z4 ho
 refine ⟨a, cap, hv, h1, h2, fun k hk => ?_⟩
 have hk' : k < us.length := by omega
 obtain ⟨gb, ha, hob, _, hc⟩ := h3 k us[k] (List.getElem?_eq_getElem hk')
 obtain ⟨r1, r2⟩ := he k hk' hk
 exact ⟨us[k], gb, 0, Good.weak r2 (fun b hb => Imm.sub b hb.1), r1, ha, ⟨.inr (hh.own (ZS v e R xs) (by simp) gb hob).1, fun o' ho' hk => (List.pairwise_cons.1 hh.apart).1 o' ho' gb hob hk⟩, by rw [Nat.zero_add]; exact hc⟩
theorem ZNs {α : Type} {R : Rel α} [Good R] {P0 : Nat -> Prop} {B : Nat} {w0 w : World} {v : Value} {xs : List α} (hh : Hp P0 B w0 (ZHd v e n R xs :: hp) w) : ArrK n R (Imm P0 B hp) w v xs := by
 obtain ⟨us, hl, hu, hn, ho, he⟩ := hh.ok (ZHd v e n R xs) (by simp)
 obtain ⟨a, cap, hv, h1, h2, h3⟩ := Z4 ho
 refine ⟨a, cap, hv, h1, h2, hn, fun k hk => ?_⟩
 have hk' : k < us.length := by omega
 have hmem := hu us[k] (List.getElem_mem hk')
 have hlen : ∀ u ∈ us, u.length = n := fun u h => (hu u h).1
 have hc0 : 0 < us[k].length := by rw [hmem.1]; exact hn
 obtain ⟨gb, ha, hob, hB, _⟩ := h3 (k * n + 0) us[k][0] (ZAe hlen hk' (List.getElem?_eq_getElem hc0))
 refine ⟨us[k], gb, 0, Good.weak (he k hk' hk) (fun b hb => Imm.sub b hb.1), hmem.1, hmem.2, ha, ⟨.inr (hh.own (ZHd v e n R xs) (by simp) gb hob).1, fun o' ho' hk => (List.pairwise_cons.1 hh.apart).1 o' ho' gb hob hk⟩, fun j c hc => ?_⟩
 obtain ⟨g', ha', _, _, hc'⟩ := h3 (k * n + j) c (ZAe hlen hk' hc)
 rw [ha] at ha'
 cases ha'
 rw [Nat.zero_add]; exact hc'
theorem ZEs {P0 : Nat -> Prop} {B : Nat} {w : World} {a : Act} {ob : HObj} {v : Value} (hf : Fr (Imm P0 B (ob :: hp)) w a fr) {s : Tmp} (hs : fr[s]? = some (dX v)) (hd : d.rd (Imm P0 B hp) w v) : Fr (Imm P0 B hp) w a (fr.set s d) := by
 refine ⟨hf.defers, by rw [hf.size, List.length_set], fun t' d' hd' => ?_⟩
 by_cases htt : s = t'
 ·subst htt
  rw [List.getElem?_set] at hd'
  simp only [if_true] at hd'
  split at hd'
  ·cases hd'
   have hv : a.tmps.getD s undef = v := hf.rd s _ hs
   rw [hv]; exact hd
  ·cases hd'
 ·rw [List.getElem?_set_ne htt] at hd'
  exact d'.weak (hf.rd t' d' hd') Imm.sub
theorem ZCQ {α : Type} {R : Rel α} {_gR : Good R} {v : Value} {xs : List α} {s : Tmp} (hs : fr[s]? = some (dX v)) (h : WL P ops Q rest (fr.set s (dS (Arr R) xs)) hp) : WL P ops Q rest fr (ZS v e R xs :: hp) := WL.of fun _ _ _ _ _ hh hf => h.on hh.drop (ZEs hf hs (d := dS (Arr R) xs) (ZBv hh))
theorem ZA2 {c : Code} {α : Type} {R : Rel α} {_gR : Good R} {v : Value} {xs : List α} {s : Tmp} (hs : fr[s]? = some (dX v)) (h : WC P Q c (fr.set s (dS (Arr R) xs)) hp) : WC P Q c fr (ZS v e R xs :: hp) := WC.of fun _ _ _ _ _ hh hf => h.on hh.drop (ZEs hf hs (d := dS (Arr R) xs) (ZBv hh))
def BndD (fr : List Dat) (x : Option Operand) (dflt k : Nat) : Prop := (x = none /\ k = dflt) \/ ∃ y, x = some y /\ OpD fr y (dI (k : Int))
theorem BndD.no {k : Nat} : BndD fr none k k := .inl ⟨rfl, rfl⟩
theorem BndD.yes {y : Operand} {k m : Nat} (h : OpD fr y (dI (k : Int))) : BndD fr (some y) m k := .inr ⟨y, rfl, h⟩
theorem Zm {y : Operand} {k m : Nat} {j : Int} (h : OpD fr y (dI j)) (hj : j = (k : Int)) : BndD fr (some y) m k := .inr ⟨y, rfl, by rw [<- hj]; exact h⟩
theorem BndD.get {x : Option Operand} {dflt k : Nat} {o : Oper} {I : Nat -> Prop} {w : World} {a : Act} (h : BndD fr x dflt k) (hm : ∀ y, x = some y -> y ∈ o.op.operands.toList) (ho : On (o.looksAt ops) I w a fr) : Bnd (x.map a.eval) dflt k := by
 rcases h with ⟨rfl, h⟩ | ⟨y, rfl, h⟩
 ·exact .inl ⟨rfl, h⟩
 ·exact .inr ⟨.i64, by rw [Option.map_some]; exact congrArg some (h.get (hm y rfl) ho)⟩
theorem ZBQ {x : Operand} {lo hi : Option Operand} (E : ElT P t e 1 z bytes ag) {α : Type} {R : Rel α} {_gR : Good R} {xs : List α} {l h : Nat} (hx : OpD fr x (dS (Arr R) xs)) (hlo : BndD fr lo 0 l) (hhi : BndD fr hi xs.length h) (h1 : l ≤ h) (h2 : h ≤ xs.length) :
  SY P ops hp ⟨dst, .slice t x lo hi none, ty, ps, af, g⟩ fr (dS (Arr R) ((xs.drop l).take (h - l))) := SY.val fun {I w a} ho => by
 have hv : Arr R I w (a.eval x) xs := hx.get (by simp [Op.operands]) ho
 have b1 := hlo.get (o := ⟨dst, .slice t x lo hi none, ty, ps, af, g⟩) (fun y hy => by subst hy; simp [Op.operands]) ho
 have b2 := hhi.get (o := ⟨dst, .slice t x lo hi none, ty, ps, af, g⟩) (fun y hy => by subst hy; simp [Op.operands]) ho
 have hv' := hv
 obtain ⟨ad, cap, he, c1, c2, c3⟩ := hv
 rw [he] at hv'
 refine ⟨_, ?_, ZJy hv' h1 h2⟩
 have hr := ZBn (w := w) (ad := ad) E b1 b2 h1 (by omega : h ≤ cap)
 unfold execOp
 simp only [he, Option.map_none, Sem.run_bind, hr, Result.andThen_ok, Sem.run_pure]
theorem ZLN {x : Operand} {T T2 : TypeId} {α : Type} {xs : List α} (hx : OpD fr x d) (hd : ∀ (I : Nat -> Prop) (w : World) (v : Value), d.rd I w v -> ∃ a m c, v = .slice a m c /\ (a = none -> m = 0)) (hl : ∀ (I : Nat -> Prop) (w : World) (v : Value), d.rd I w v -> Len v xs.length) (hq : ∀ (x y : Operand) ad m c w, (do eqGuard .eql T x y (.slice ad m c) (.slice none 0 0); Go.binOp .eql T (.slice ad m c) (.slice none 0 0)).run P w = .ok (.bool ad.isNone) w) :
  SY P ops hp ⟨dst, .binOp .eql T x (.const (.slice none 0 0)) T2, ty, ps, af, g⟩ fr (dE (fun b : Bool => b = true -> xs = []) dB) := SY.val fun {I w a} ho => by
 have h1 := hx.get (by simp [Op.operands]) ho
 obtain ⟨ad, m, c, hv, hm⟩ := hd _ _ _ h1
 obtain ⟨a2, c2, hv2⟩ := hl _ _ _ h1
 refine ⟨.bool ad.isNone, ?_, ad.isNone, fun hn => ?_, rfl⟩
 ·have := hq x (.const (.slice none 0 0)) ad m c w
  unfold execOp
  have hc : a.eval (.const (.slice none 0 0)) = .slice none 0 0 := rfl
  simp only [hv, hc]
  rw [Sem.run_bind, this]
  simp
 ·rw [hv] at hv2
  cases hv2
  have h0 : ad = none := by simpa using hn
  exact List.eq_nil_of_length_eq_zero (hm h0)

def ishl (x : Int) (y : Int) : Int := IntKind.i64.wrap (x * 2 ^ min y.toNat 64)
section
variable {x y : Operand} {T T2 : TypeId} {p q : Int} (hx : OpD fr x (dI p)) (hy : OpD fr y (dI q))
include hx hy
theorem SY.shl (h : 0 ≤ q) : SY P ops hp ⟨dst, .binOp .shl T x y T2, ty, ps, af, g⟩ fr (dI (ishl p q)) := ZDL hx hy (fun w => by
 have : ¬ q < 0 := by omega
 simp [Go.binOp, Op.shift, this]; rfl) fun _ _ => rfl
end
structure VxT (P : Program) (T : TypeId) : Prop where
 fld0 : ∀ b off w, (Instr.fieldAt T (.pointer (some ⟨b, off, none⟩)) 0).run P w = .ok (.pointer (some ⟨b, off + 0, none⟩)) w
 fld1 : ∀ b off w, (Instr.fieldAt T (.pointer (some ⟨b, off, none⟩)) 1).run P w = .ok (.pointer (some ⟨b, off + 1, none⟩)) w
 eql : ∀ (x y : Operand) p q p' q' w, (do eqGuard .eql T x y (.agg #[.int .i64 p, .int .i64 q]) (.agg #[.int .i64 p', .int .i64 q']); Go.binOp .eql T (.agg #[.int .i64 p, .int .i64 q]) (.agg #[.int .i64 p', .int .i64 q'])).run P w = .ok (.bool (decide (p = p') && decide (q = q'))) w
 neq : ∀ (x y : Operand) p q p' q' w, (do eqGuard .neq T x y (.agg #[.int .i64 p, .int .i64 q]) (.agg #[.int .i64 p', .int .i64 q']); Go.binOp .neq T (.agg #[.int .i64 p, .int .i64 q]) (.agg #[.int .i64 p', .int .i64 q'])).run P w = .ok (.bool (!(decide (p = p') && decide (q = q')))) w
 mkv : ∀ p q w, (Instr.build T #[(0, .int .i64 p), (1, .int .i64 q)]).run P w = .ok (.agg #[.int .i64 p, .int .i64 q]) w
 mk0 : ∀ p w, (Instr.build T #[(0, .int .i64 p)]).run P w = .ok (.agg #[.int .i64 p, .int .i64 0]) w
 mk1 : ∀ q w, (Instr.build T #[(1, .int .i64 q)]).run P w = .ok (.agg #[.int .i64 0, .int .i64 q]) w
section
variable {T T2 : TypeId} (V : VxT P T) {x y : Operand} {p q : Int × Int}
include V
theorem SY.fld0 (hx : OpD fr x (dP 2 true (dS RV p))) : SY P ops hp ⟨dst, .fieldAddr T x 0, ty, ps, af, g⟩ fr (dP 1 false (dI p.1)) := SY.val fun {I w a} ho => by
 obtain ⟨b, off, u, h1, ⟨hb, cs, k1, k0, k2, k3, k4⟩, h3⟩ := hx.get (by simp [Op.operands]) ho
 have hu : u = .agg #[.int .i64 p.1, .int .i64 p.2] := h3
 simp only [if_true] at k4
 rw [k4] at hu
 have hcs : cs = [.int .i64 p.1, .int .i64 p.2] := by injection hu with hu; exact List.toArray_inj hu
 subst hcs
 refine ⟨_, ?_, b, off + 0, .int .i64 p.1, rfl, ⟨hb, [.int .i64 p.1], rfl, Nat.one_pos, by simp [Value.oneCell'], fun j c hc => ?_, rfl⟩, rfl⟩
 ·unfold execOp
  simp only [h1, Sem.run_bind, V.fld0, Result.andThen_ok, Sem.run_pure]
 ·have hj : j = 0 := by have := (List.getElem?_eq_some_iff.1 hc).1; simpa using this
  subst hj
  cases hc
  exact k3 0 _ rfl
theorem SY.fld1 (hx : OpD fr x (dP 2 true (dS RV p))) : SY P ops hp ⟨dst, .fieldAddr T x 1, ty, ps, af, g⟩ fr (dP 1 false (dI p.2)) := SY.val fun {I w a} ho => by
 obtain ⟨b, off, u, h1, ⟨hb, cs, k1, k0, k2, k3, k4⟩, h3⟩ := hx.get (by simp [Op.operands]) ho
 have hu : u = .agg #[.int .i64 p.1, .int .i64 p.2] := h3
 simp only [if_true] at k4
 rw [k4] at hu
 have hcs : cs = [.int .i64 p.1, .int .i64 p.2] := by injection hu with hu; exact List.toArray_inj hu
 subst hcs
 refine ⟨_, ?_, b, off + 1, .int .i64 p.2, rfl, ⟨hb, [.int .i64 p.2], rfl, Nat.one_pos, by simp [Value.oneCell'], fun j c hc => ?_, rfl⟩, rfl⟩
 ·unfold execOp
  simp only [h1, Sem.run_bind, V.fld1, Result.andThen_ok, Sem.run_pure]
 ·have hj : j = 0 := by have := (List.getElem?_eq_some_iff.1 hc).1; simpa using this
  subst hj
  cases hc
  exact k3 1 _ rfl
end
end

end
section
open Go.RowKit

section
variable {P : Program} {ops : Array Oper} {hp : List HObj} {md : Region.Mode} {w : World}

def ZE5 (P : Program) (md : Region.Mode) (ops : Array Oper) (hp : List HObj) (n : Nat) (L : Array Bool -> List Dat -> Prop) : Nat -> Array Bool -> List Dat -> Prop
 | 0, listed, a => L listed a
 | f + 1, listed, a =>
  Region.ready md ops listed ≠ [] /\ ∀ i ∈ Region.ready md ops listed, i < n /\ sOp P ops hp i (ZE5 P md ops hp n L f (listed.setIfInBounds i true)) a

theorem ZB4 {n g : Nat} {L : Array Bool -> List Dat -> Prop} {Q' : Exit -> Act -> World -> Prop} {P0 : Nat -> Prop} {B : Nat} {w0 : World} : ∀ (f : Nat) (listed : Array Bool) (fr : List Dat) (a : Act) (w : World), Hp P0 B w0 hp w -> Fr (Imm P0 B hp) w a fr ->
  (∀ listed fr a w', Ext w w' -> Hp P0 B w0 hp w' -> Fr (Imm P0 B hp) w' a fr -> L listed fr -> wpAny P md ops Q' g listed a w') -> ZE5 P md ops hp n L f listed fr -> wpAny P md ops Q' (f + g) listed a w
 | 0, listed, fr, a, w, hh, hf, hL, h => by rw [Nat.zero_add]; exact hL _ _ _ _ (Ext.refl _) hh hf h
 | f + 1, listed, fr, a, w, hh, hf, hL, h => by
  rw [show f + 1 + g = (f + g) + 1 by omega]
  refine ⟨fun h0 => absurd h0 h.1, fun i hi => ?_⟩
  have h1 := (h.2 i hi).2
  unfold sOp at h1
  unfold wpOp
  split
  ·rename_i ho; simp only [ho] at h1
   exact ZB4 f _ _ _ _ hh hf hL h1
  ·rename_i o ho; simp only [ho] at h1
   obtain ⟨d, h2, h3⟩ := h1
   have := h2.step (Q := Q') hh hf (K := wpAny P md ops Q' (f + g) (listed.setIfInBounds i true)) fun a' w' e hf' => ZB4 f _ _ _ _ (hh.ext e) hf' (fun li fr' a'' w'' e' => hL li fr' a'' w'' (e.trans e')) h3
   split
   ·rename_i hw; rw [if_pos hw] at this; exact .inl this
   ·rename_i hw; rw [if_neg hw] at this; exact this

theorem ZGP {n i : Nat} {oi : Oper} {di : Dat} {L : Array Bool -> List Dat -> Prop} (hi : ops[i]? = some oi)
  (hs : Region.sinkB md ops n = true) (hc : Region.chainB md ops n = true) (hn : n < ops.size) (hin : i < n)
  (hdone : ∀ listed a, L listed a -> ∀ j ∈ Region.ready md ops listed, n ≤ j) :
  ∀ (f : Nat) (listed : Array Bool) (fr : List Dat), HeadInv md ops n listed ->
   (∀ j oj, ops[j]? = some oj -> j ≠ i -> listed.getD j true = false -> (∀ e ∈ oj.after, Region.binds md e = true -> e.on ≠ i) -> oi.apart ops oj = true) ->
   i ∈ Region.ready md ops listed -> SYG P ops hp oi fr di ->
   ZE5 P md ops hp n L f (listed.setIfInBounds i true) (ZB fr oi.dst di) -> ZE5 P md ops hp n L (f + 1) listed fr := by
 have one : ∀ {K : List Dat -> Prop} {fr : List Dat}, SYG P ops hp oi fr di -> K (ZB fr oi.dst di) -> sOp P ops hp i K fr := fun hy hk => by unfold sOp; simp only [hi]; exact ⟨di, hy, hk⟩
 intro f
 induction f with
 | zero =>
  intro listed a inv _ hr hy H
  have hun := (mem_ready.1 hr).1
  refine ⟨fun h => (by rw [h] at hr; cases hr), fun j hj => ?_⟩
  have hjn : j < n := by
   rcases Nat.lt_or_ge j n with h | h
   ·exact h
   ·exact absurd hj (tail_waits hs hc hn inv _ i rfl hin hun j h)
  refine ⟨hjn, ?_⟩
  by_cases hji : j = i
  ·subst hji; exact one hy H
  ·have := hdone _ _ H j (ready_mono hj hji)
   omega
 | succ f ih =>
  intro listed a inv hfree hr hy H
  have hun := (mem_ready.1 hr).1
  refine ⟨fun h => (by rw [h] at hr; cases hr), fun j hj => ?_⟩
  have hjn : j < n := by
   rcases Nat.lt_or_ge j n with h | h
   ·exact h
   ·exact absurd hj (tail_waits hs hc hn inv _ i rfl hin hun j h)
  refine ⟨hjn, ?_⟩
  by_cases hji : j = i
  ·subst hji; exact one hy H
  ·have h1 := (H.2 j (ready_mono hj hji)).2
   obtain ⟨hjun, oj, hoj, hall⟩ := mem_ready.1 hj
   have hnot : ∀ e ∈ oj.after, Region.binds md e = true -> e.on ≠ i := fun e he hb heq => by
    have h1 := hall e he hb
    rw [heq, getD_both hun] at h1
    cases h1
   have h2 := ZK3 hoj (hfree j oj hoj hji hjun hnot) hy h1
   have hfree' : ∀ k ok, ops[k]? = some ok -> k ≠ i -> (listed.setIfInBounds j true).getD k true = false ->
     (∀ e ∈ ok.after, Region.binds md e = true -> e.on ≠ i) -> oi.apart ops ok = true := fun k ok hk hki hun hno => by
    refine hfree k ok hk hki ?_ hno
    by_cases hjk : j = k
    ·subst hjk; exact hjun
    ·rw [getD_set_ne true hjk] at hun; exact hun
   refine ZIY (fun a' h3 => ih (listed.setIfInBounds j true) a' (inv.set hj hjn) hfree' (ready_mono hr (Ne.symm hji)) h3.1 ?_) h2
   rw [Array.setIfInBounds_comm _ _ hji]
   exact h3.2

theorem ZE6 {n g : Nat} {Lq : List Dat -> Prop} (hs : Region.sinkB md ops n = true) (hc : Region.chainB md ops n = true) (hn : n < ops.size) :
  ∀ (l : List Oper) (k : Nat) (listed : Array Bool) (fr : List Dat), (∀ j, j < l.length -> l[j]? = ops[k + j]?) -> k + l.length = n -> HeadInv md ops n listed ->
  Region.lexHead md ops g l.length k listed = true -> WD P ops hp Lq l fr ->
  ZE5 P md ops hp n (fun listed' a' => Region.seqB md ops g n listed' = true /\ Lq a') l.length listed fr
 | [], k, listed, a, _, hk, _, hB, h => by
  have : k = n := by simpa using hk
  subst this
  exact ⟨by simpa [Region.lexHead] using hB, by cases h; assumption⟩
 | o :: l, k, listed, a, hl, hk, inv, hB, h => by
  have h0 : ops[k]? = some o := by simpa using (hl 0 (by simp)).symm
  simp only [List.length_cons, Region.lexHead, Bool.and_eq_true] at hB
  obtain ⟨⟨hr, hf⟩, hB'⟩ := hB
  have hkn : k < n := by simp only [List.length_cons] at hk; omega
  have hr' : k ∈ Region.ready md ops listed := by simpa using hr
  cases h
  rename_i d hy hK
  exact ZGP h0 hs hc hn hkn (fun listed' a' hL => seqB_ready hL.1) l.length listed a inv (Region.free_spec h0 hf) hr' hy
   (ZE6 hs hc hn l (k + 1) _ _ (fun j hj => by have := hl (j + 1) (by simp; omega); simpa [Nat.add_assoc, Nat.add_comm 1 j] using this) (by simp only [List.length_cons] at hk; omega) (inv.set hr' hkn) hB' hK)

theorem WC.drawTail {id : Nat} {l : List Oper} {fr : List Dat} {Q : ZAb} (n : Nat) (hm : P.follows .mixedOrders = true) (hB : Region.lexTailB .any l.toArray n = true)
  (h : WD P l.toArray hp (fun f => WL P l.toArray Q (l.drop n) f hp) (l.take n) fr) : WC P Q (.region id l.toArray true) fr hp := by
 refine WC.of fun P0 B w0 w a hh hf => ?_
 simp only [Region.lexTailB, Bool.and_eq_true, decide_eq_true_eq] at hB
 obtain ⟨⟨⟨⟨hsel, hn⟩, hs⟩, hc⟩, hlex⟩ := hB
 have hn' : n < l.length := by simpa using hn
 have htl : (l.take n).length = n := by simp; omega
 have hdl : (l.drop n).length = l.toArray.size - n := by simp
 have inv0 : HeadInv .any l.toArray n (Array.replicate l.toArray.size false) :=
  ⟨by simp, fun j oj _ hl => (by rw [getD_replicate_false] at hl; cases hl), fun t _ ht => getD_in (by simpa using ht) (getD_replicate_false _ _)⟩
 have H := ZE6 (md := .any) (g := l.toArray.size - n) hs hc hn (l.take n) 0 _ fr (fun j hj => by
  have hj' : j < n := by rw [htl] at hj; exact hj
  simp [hj']) (by simpa using htl) inv0 (by rw [htl]; exact hlex) h
 have hx : Ext w { w with drawn := w.drawn + 1 } := (Ext.refl w).drew
 refine wp_region_any hm ?_
 have := ZB4 (Q' := ZDV Q P0 B w0) (g := l.toArray.size - n) _ _ _ _ _ (hh.ext hx) (hf.ext hx) (fun listed fr' a' w' e hh' hf' hL => by
  have := wpAny_of_seq (md := .any) (Q' := ZDV Q P0 B w0) (l.drop n) n listed a' w' (fun j => by simp [List.getElem?_drop]) (by rw [hdl]; exact hL.1) (hL.2.on hh' hf')
  rwa [hdl] at this) H
 rw [htl, show n + (l.toArray.size - n) = l.toArray.size by omega] at this
 exact this
end

def ZN3 {α : Type} (n : Nat) (R : Rel α) [Good R] (xs : List α) : Dat where
 rd := fun I w v => ArrK n R I w v xs /\ ∃ a, v = .slice (some a) xs.length xs.length
 weak := fun ⟨h, k⟩ q => ⟨Good.weak (R := ArrK n R) h q, k⟩
 move := fun ⟨h, k⟩ q => ⟨Good.move (R := ArrK n R) h q, k⟩
 bound := fun ⟨h, k⟩ => ⟨Good.bound (R := ArrK n R) h, k⟩
theorem ZNM {α : Type} {n : Nat} {R : Rel α} {_gR : Good R} {xs : List α} : (ZN3 n R xs).le (dS (ArrK n R) xs) := fun _ _ _ h => h.1
section
variable {P : Program} {ops : Array Oper} {hp : List HObj} {o : Oper} {fr : List Dat} {d : Dat} {Q : ZAb} {rest : List Oper}
variable {dst : Option Tmp} {ty : TypeId} {ps : String} {af : Array Edge} {g : Option (Nat × Bool)}
variable {t e : TypeId} {n bytes : Nat} {z : Value} {ag : Bool}
theorem SY.build1' (E : ElT P t e 1 z bytes ag) {α : Type} {R : Rel α} {_gR : Good R} {len : Nat} {parts : Array (Nat × Operand)} {els : List α} (hx : ElsD fr R (parts.toList.map Prod.snd) els) (hparts : parts.toList = ((parts.toList.map Prod.snd).zipIdx).map (fun p => (p.2, p.1))) (hl : len = els.length) (hs : ∀ a, (dS R a).Shape 1 false) (hsm : els.length * 1 ≤ 16777216) :
  SY P ops hp ⟨dst, .buildSlice t len parts, ty, ps, af, g⟩ fr (dS (Arr R) els) := SY.build1 E hx hparts hl hs hsm
theorem ZGW {v : Value} {e : TypeId} {α : Type} {R : Rel α} {_gR : Good R} {xs ys : List α} (h : ZS v e R xs ∈ hp) (he : xs = ys) : FinD hp (dX v) (dS (Arr R) ys) := he ▸ FinD.row h
theorem ZIg {v : Value} {e : TypeId} {n : Nat} {α : Type} {R : Rel α} {_gR : Good R} {xs ys : List α} (h : ZHd v e n R xs ∈ hp) (he : xs = ys) : FinD hp (dX v) (dS (ArrK n R) ys) := he ▸ FinD.rowK h
theorem ZGV {α : Type} {R : Rel α} [Good R] {ys : List α} (he : ys = []) : FinD hp (dX (.slice none 0 0)) (dS (Arr R) ys) := by subst he; exact FinD.le ZD
theorem ZMt {x y : Operand} {T T2 : TypeId} {p q : Bool} (hx : OpD fr x (dB p)) (hy : OpD fr y (dB q)) (hq : ∀ (x y : Operand) (p q : Bool) w, (do eqGuard .eql T x y (.bool p) (.bool q); Go.binOp .eql T (.bool p) (.bool q)).run P w = .ok (.bool (p == q)) w) : SY P ops hp ⟨dst, .binOp .eql T x y T2, ty, ps, af, g⟩ fr (dB (p == q)) := SY.val fun {I w a} ho => by
 have h1 : a.eval x = .bool p := hx.get (by simp [Op.operands]) ho
 have h2 : a.eval y = .bool q := hy.get (by simp [Op.operands]) ho
 refine ⟨.bool (p == q), ?_, rfl⟩
 have := hq x y p q w
 unfold execOp
 simp only [h1, h2]
 rw [Sem.run_bind, this]
 simp
end

end
section
open Go.RowKit
section
variable {P : Program} {ops : Array Oper} {hp : List HObj} {o : Oper} {fr : List Dat} {d : Dat} {Q : ZAb} {rest : List Oper}
variable {dst : Option Tmp} {ty : TypeId} {ps : String} {af : Array Edge} {g : Option (Nat × Bool)}
variable {t e : TypeId} {n bytes : Nat} {z : Value} {ag : Bool}
theorem Zt {α : Type} {R : Rel α} {_gR : Good R} {x : Operand} {xs : List Operand} {a : α} {els : List α} (h : OpD fr x (dS R a)) (k : ElsD fr R xs els) : ElsD fr R (x :: xs) (a :: els) := ElsD.cons h k
theorem Zy {α : Type} {R : Rel α} {_gR : Good R} : ElsD fr R [] ([] : List α) := ElsD.nil
theorem ZLO {x y : Operand} (E : ElT P t e 1 z bytes ag) {α : Type} {R : Rel α} {_gR : Good R} {xs : List α} {j : Int} (hx : OpD fr x (dS (Arr R) xs)) (hy : OpD fr y (dI j)) (l : Nat) (hj : j = (l : Int)) (h1 : l ≤ xs.length) :
  SY P ops hp ⟨dst, .slice t x (some y) none none, ty, ps, af, g⟩ fr (dS (Arr R) (xs.drop l)) := by
 have := ZBQ (P := P) (ops := ops) (hp := hp) (dst := dst) (ty := ty) (ps := ps) (af := af) (g := g) (_gR := _gR) E hx (Zm hy hj) BndD.no h1 (Nat.le_refl _)
 rwa [List.take_of_length_le (by simp)] at this
end

end
section
open Go.RowKit
def ZBu (P : Program) (f : FuncId) : Prop := ∀ (args : Array Value) (w : World), (callFunc f args).run P w = .ok (.enter f args) w
def ZN4 (P : Program) {α : Type} (A : α -> List Dat) (r : α -> Dat) : Dat where
 rd := fun I w v => ∃ f cap, v = .func (.func f) #[] cap /\ ZBu P f /\ ∀ w', (∀ k, I k -> k < w.heap.size -> w'.heap[k]? = w.heap[k]?) -> ∀ (x : α) (I' : Nat -> Prop) (vs : List Value), vs.length = (A x).length -> (∀ (i : Nat) (d : Dat), (A x)[i]? = some d -> d.rd I' w' (vs.getD i undef)) ->
  Calls P f (vs.toArray ++ cap) w' fun e w'' => ∃ u, e = .returned u /\ Ext w' w'' /\ (r x).rd (fun b => I' b \/ w'.heap.size ≤ b) w'' u
 weak := fun ⟨f, cap, h1, h0, h2⟩ q => ⟨f, cap, h1, h0, fun w' hw' => h2 w' fun k hk => hw' k (q k hk)⟩
 move := fun {P w w2 v} ⟨f, cap, h1, h0, h2⟩ q => ⟨f, cap, h1, h0, fun w' hw' => h2 w' fun k hk hlt => by
  have h3 := q k hk hlt
  have hlt2 : k < w2.heap.size := by
   have : (w2.heap[k]?).isSome = true := by rw [h3]; simp [hlt]
   exact (Array.getElem?_eq_some_iff.1 (Option.isSome_iff_exists.1 this).choose_spec).1
  exact (hw' k hk hlt2).trans h3⟩
 bound := fun ⟨f, cap, h1, h0, h2⟩ => ⟨f, cap, h1, h0, fun w' hw' => h2 w' fun k hk hlt => hw' k ⟨hk, hlt⟩ hlt⟩
section
variable {P : Program} {ops : Array Oper} {hp : List HObj} {o : Oper} {fr : List Dat} {d : Dat} {dst : Option Tmp} {ty : TypeId} {ps : String} {af : Array Edge} {g : Option (Nat × Bool)}
theorem ZOC {f : FuncId} {α : Type} {A : α -> List Dat} {r : α -> Dat} (he : ZBu P f) (h : ∀ x, Fn P f (A x) (r x)) : (dX (.func (.func f) #[] #[])).le (ZN4 P A r) := fun I w v hv => by
 cases (hv : _ = _)
 refine ⟨f, #[], rfl, he, fun w' _ x I' vs hl hr => ?_⟩
 have := (h x).out I' w' vs hl hr
 simpa using this
theorem ZEX {t : Tmp} {args : Array Operand} {ats : Array TypeId} {α : Type} {A : α -> List Dat} {r : α -> Dat} {x : α} (ht : OpD fr (.tmp t) (ZN4 P A r)) (ha : ArgsD fr args.toList (A x)) :
  SY P ops hp ⟨dst, .call { callee := .value (.tmp t), args := args, argTypes := ats }, ty, ps, af, g⟩ fr (r x) := SY.mk fun {P0 B w0 w a} hh ho K Q hk => by
 obtain ⟨f, cap, h1, h0, h2⟩ := ht.get (by simp [Op.operands, Call.operands]) ho
 have h3 := h2 w (fun _ _ _ => rfl) x (Imm P0 B hp) (args.toList.map a.eval) (by simpa using ha.1) fun i d hd => by
  have hi : i < args.toList.length := by rw [ha.1]; exact (List.getElem?_eq_some_iff.1 hd).1
  have h2 := ha.2 i _ d (List.getElem?_eq_getElem hi) hd
  have := h2.get (by simp only [Op.operands, Call.operands]; simp) ho
  have hi' : i < args.size := by simpa using hi
  simpa [List.getD, hi'] using this
 have he : (args.toList.map a.eval).toArray = args.map a.eval := by apply Array.ext'; simp
 rw [he] at h3
 unfold Oper.wp
 have h4 := h0 (args.map a.eval ++ cap) w
 have : (execOp a.eval ⟨dst, .call { callee := .value (.tmp t), args := args, argTypes := ats }, ty, ps, af, g⟩).run P w = .ok (.enter f (args.map a.eval ++ cap)) w := by
  unfold execOp
  simp only [resolve]
  simp [h1, Deferred.ofValue, invoke, h4]
 rw [this]
 exact h3.mono fun e w' ⟨v, he, e1, hd⟩ => by subst he; exact hk v w' e1 ((r x).weak hd fun k hk => hk.elim id hh.fresh)
theorem ZFN {f : FuncId} {caps : Array Operand} {cs : List Dat} {α : Type} {A : α -> List Dat} {r : α -> Dat} (he : ZBu P f) (h : ∀ x, Fn P f (A x ++ cs) (r x)) (hr : ∀ x, (r x).Bare) (ha : ArgsD fr caps.toList cs) :
  SY P ops hp ⟨dst, .makeFunc (.func f) #[] caps, ty, ps, af, g⟩ fr (ZN4 P A r) := SY.val fun {I w a} ho => by
 refine ⟨.func (.func f) #[] (caps.map a.eval), by unfold execOp; simp [Instr.makeFunc], f, _, rfl, he, fun w' hw' x I' vs hl hv => ?_⟩
 have hcap : ∀ (i : Nat) (d : Dat), cs[i]? = some d -> d.rd I w' ((caps.toList.map a.eval).getD i undef) := fun i d hd => by
  have hi : i < caps.toList.length := by rw [ha.1]; exact (List.getElem?_eq_some_iff.1 hd).1
  have h2 := ha.2 i _ d (List.getElem?_eq_getElem hi) hd
  have := h2.get (by simp only [Op.operands]; simp) ho
  have hi' : i < caps.size := by simpa using hi
  have := d.move this hw'
  simpa [List.getD, hi'] using this
 have := (h x).out (fun b => I' b \/ I b) w' (vs ++ caps.toList.map a.eval) (by have := ha.1; simp at this; simp [hl, this]) fun i d hd => by
  by_cases hi : i < (A x).length
  ·rw [List.getElem?_append_left hi] at hd
   have := hv i d hd
   have hi2 : i < vs.length := by omega
   rw [List.getD_eq_getElem?_getD, List.getElem?_append_left hi2, <- List.getD_eq_getElem?_getD]
   exact d.weak this fun _ => .inl
  ·rw [List.getElem?_append_right (by omega)] at hd
   have := hcap _ d hd
   rw [List.getD_eq_getElem?_getD, List.getElem?_append_right (by omega), <- List.getD_eq_getElem?_getD, hl]
   exact d.weak this fun _ => .inr
 have he : (vs ++ caps.toList.map a.eval).toArray = vs.toArray ++ caps.map a.eval := by apply Array.ext'; simp
 rw [he] at this
 exact this.mono fun e w'' ⟨u, h1, h2, h3⟩ => ⟨u, h1, h2, hr x _ _ _ _ _ h3⟩
theorem ZNl {α : Type} {A : α -> List Dat} {r : α -> Dat} : (ZN4 P A r).Shape 1 false := ZCN fun _ _ _ h => by obtain ⟨f, c, rfl, _⟩ := h; rfl
end
end
end Go.Proofs.YtjmignmnlpamjaaGreat
