/- Part 7: walks by contracts, and plain laws. -/
import Derived.DeepKeys4
import Derived.Test.YtjmignmnlpamjaaGreatVa6
set_option linter.unusedVariables false
set_option linter.unusedSimpArgs false
set_option linter.unusedSectionVars false
set_option maxRecDepth 100000
set_option maxHeartbeats 4000000
namespace Go.Proofs.YtjmignmnlpamjaaGreat
section
open Go.RowKit

def ZBD (v : Value) (k : Nat) : Value := match v with
 | .slice (some ⟨b, _, _⟩) _ _ => .pointer (some ⟨b, k, none⟩)
 | _ => undef
section
variable {P : Program} {ops : Array Oper} {hp : List HObj} {o : Oper} {fr : List Dat} {d : Dat} {Q : ZAb} {rest : List Oper}
variable {dst : Option Tmp} {ty : TypeId} {ps : String} {af : Array Edge} {g : Option (Nat × Bool)} {e e' t T : TypeId} {bytes : Nat} {z : Value} {ag : Bool} {α : Type} {R : Rel α} {xs : List α} {v : Value}
theorem ZHj {I : Nat -> Prop} {w : World} (h : Own 0 e R I w v xs) {k : Nat} (hk : k < xs.length) : ∃ (b cap : Nat) (us : List Value), v = .slice (some ⟨b, 0, none⟩) xs.length cap /\ us.length = xs.length /\ ∃ (hu : k < us.length), us[k].oneCell' = true /\ R (fun j => I j /\ v.ownBlock ≠ some j) w us[k] xs[k] /\ w.cell? ⟨b, k, none⟩ = some us[k] := by
 obtain ⟨us, h1, ⟨h2, h3⟩, h4⟩ := h
 rcases h3 with ⟨_, hz⟩ | ⟨g, cap, cur, hv, hB, hg, hc1, hc2, hc3, hc4⟩
 ·omega
 ·have hu : k < us.length := by omega
  refine ⟨g, cap, us, hv, h1, hu, (h4 k hu hk).1, (h4 k hu hk).2, ?_⟩
  rw [Nat.mul_one] at hc3 hc4
  have hkc : k < cur.size := by omega
  have : cur[k] = us[k] := by
   have e1 : us[k]? = (cur.toList.take xs.length)[k]? := by rw [hc4]
   rw [List.getElem?_take_of_lt hk, List.getElem?_eq_getElem hu] at e1
   simpa [hkc] using e1.symm
  simp [World.cell?, hg, hkc, this]
theorem Zr {_gR : Good R} {x i : Operand} {k : Nat} {j : Int} (E : ElT P t e 1 z bytes ag) (hx : OpD fr x (dX v)) (hm : ZS v e' R xs ∈ hp) (hi : OpD fr i (dI j)) (hj : j = (k : Int)) (hk : k < xs.length) :
  SY P ops hp ⟨dst, .indexAddr t x i, ty, ps, af, g⟩ fr (dX (ZBD v k)) := ZAm fun {P0 B w0 w a} hh ho => by
 have h1 : a.eval x = v := hx.get (by simp [Op.operands]) ho
 have h2 : a.eval i = _ := hi.get (by simp [Op.operands]) ho
 obtain ⟨b, cap, us, hv, _⟩ := ZHj (hh.ok _ hm) hk
 refine ⟨.pointer (some ⟨b, 0 + k * 1, none⟩), w, ?_, Ext.refl _, ?_⟩
 ·unfold execOp
  simp only [h1, hv, h2, hj, Sem.run_bind, ZAp (w := w) E b 0 xs.length cap k .i64 hk, Result.andThen_ok, Sem.run_pure]
 ·show _ = ZBD v k
  rw [hv]; simp [ZBD]
theorem ZAd {_gR : Good R} {x : Operand} {k : Nat} (T' : TyI P T 1 false) (hx : OpD fr x (dX (ZBD v k))) (hm : ZS v e' R xs ∈ hp) (hk : k < xs.length) :
  SY P ops hp ⟨dst, .load T x, ty, ps, af, g⟩ fr (dS R xs[k]) := ZAm fun {P0 B w0 w a} hh ho => by
 have h1 : a.eval x = ZBD v k := hx.get (by simp [Op.operands]) ho
 obtain ⟨b, cap, us, hv, hl, hu, o1, o2, o3⟩ := ZHj (hh.ok _ hm) hk
 have hc : Cells (fun _ => True) w b k 1 false us[k] := by
  refine ⟨trivial, [us[k]], rfl, by decide, ?_, fun i c hc => ?_, rfl⟩
  ·intro c hc; rw [List.mem_singleton.1 hc]; exact o1
  ·have hi : i = 0 := by
    have := (List.getElem?_eq_some_iff.1 hc).1
    simp at this; exact this
   subst hi
   cases hc
   exact o3
 have h1' : a.eval x = .pointer (some ⟨b, k, none⟩) := by rw [h1, hv]; rfl
 refine ⟨us[k], w, ?_, Ext.refl _, Good.weak o2 fun j hj => hj.1⟩
 unfold execOp
 simp only [h1', Sem.run_bind, ZCK T' hc, Result.andThen_ok, Sem.run_pure]
theorem ZKl [Good R] {I : Nat -> Prop} {w : World} {k : Nat} (hv : Own 0 e R I w v xs) (hk : k < xs.length) {u : Value} (hu1 : u.oneCell' = true) {y : α} (hu : R (fun b => I b /\ v.ownBlock ≠ some b) w u y) :
  ∃ g cap, v = .slice (some ⟨g, 0, none⟩) xs.length cap /\ (store ((⟨g, k, none⟩ : Addr).add 0) u).run P w = .ok () (w.setCell ⟨g, k, none⟩ u) /\ Own 0 e R I (w.setCell ⟨g, k, none⟩ u) v (xs.set k y) /\ w.grownBy (w.setCell ⟨g, k, none⟩ u) (some g) /\ v.ownBlock = some g := by
 obtain ⟨us, hl, ⟨hul, ho⟩, he⟩ := hv
 rcases ho with ⟨rfl, h0⟩ | ⟨g, cap, cur, rfl, hB, hg, hn, hm, hs, ht⟩
 ·omega
 ·rw [Nat.mul_one] at hs ht
  have hkc : k < cur.size := by omega
  have hset := setCell_eq_setRow w g k cur e (0, 0) u hg
  have hc : w.cell? ⟨g, k, none⟩ = some cur[k] := by simp [World.cell?, hg, hkc]
  have hf : w.frozen? ⟨g, k, none⟩ = false := by simp [World.frozen?, hg]
  have hgr : w.grownBy (w.setRow g (cur.setIfInBounds k u)) (some g) := ZBV
  refine ⟨g, cap, rfl, ?_, ⟨us.set k u, by simp [hl], ⟨by simp [hul], .inr ⟨g, cap, cur.setIfInBounds k u, by simp, hB, ?_, by simpa using hn, hm, by simpa using hs, ?_⟩⟩, ?_⟩, by rw [hset]; exact hgr, rfl⟩
  ·rw [show ((⟨g, k, none⟩ : Addr).add 0) = ⟨g, k, none⟩ from rfl, run_store P w _ u _ hu1, hc]
   simp [hf]
  ·rw [hset]; exact setRow_heap w g cur _ e _ hg
  ·simp only [List.length_set, Nat.mul_one, Array.toList_setIfInBounds]
   rw [<- ht, List.take_set]
  ·intro j h1 h2
   simp only [List.length_set] at h1 h2
   rw [List.getElem_set, List.getElem_set, hset]
   by_cases hkj : k = j
   ·rw [if_pos hkj, if_pos hkj]
    exact ⟨hu1, Good.grown hu hgr (fun r hr hc => hc.2 (by cases hr; rfl))⟩
   ·rw [if_neg hkj, if_neg hkj]
    exact ⟨(he j h1 h2).1, Good.grown (he j h1 h2).2 hgr (fun r hr hc => hc.2 (by cases hr; rfl))⟩
theorem WL.storeR {_gR : Good R} {p : Tmp} {x : Operand} {k : Nat} {y : α} (T' : TyI P T 1 false) (hp0 : OpD fr (.tmp p) (dX (ZBD v k))) (hx : OpD fr x (dS R y)) (hs : (dS R y).Shape 1 false) (hk : k < xs.length)
  (h : WL P ops Q rest (ZB fr dst dA) (ZS v e R (xs.set k y) :: hp)) : WL P ops Q (⟨dst, .store T (.tmp p) x, ty, ps, af, none⟩ :: rest) fr (ZS v e R xs :: hp) := by
 refine WL.of fun P0 B w0 w a hh hf => ?_
 have hok := hh.ok (ZS v e R xs) (by simp)
 have hy : R (Imm P0 B (ZS v e R xs :: hp)) w (a.eval x) y := hx.ev hf
 obtain ⟨cs, k1, k0, k2, k3, k4⟩ := hs _ _ _ hy
 have h1 : a.eval (.tmp p) = ZBD v k := hp0.ev hf
 have hone : (a.eval x).oneCell' = true := by
  have : cs = [a.eval x] := by simpa using k4
  subst this
  exact k2 _ (by simp)
 have hy' : R (fun j => (Imm P0 B (ZS v e R xs :: hp) j /\ j < w.heap.size) /\ v.ownBlock ≠ some j) w (a.eval x) y :=
  Good.weak (Good.bound hy) fun j hj => ⟨hj, hj.1.2 (ZS v e R xs) (by simp)⟩
 obtain ⟨b, cap, hv, hst, hok', hgr, hob⟩ := ZKl (P := P) ((ZS v e R xs).bound hok) hk hone hy'
 have hrun : (execOp a.eval ⟨dst, .store T (.tmp p) x, ty, ps, af, none⟩).run P w = .ok .skip (w.setCell ⟨b, k, none⟩ (a.eval x)) := by
  have he : a.eval (.tmp p) = .pointer (some ⟨b, k, none⟩) := by rw [h1, hv]; rfl
  unfold execOp
  have hsz : (sizeOf T).run P w = .ok 1 w := by
   have h5 := T'.size
   cases hq : P.info? T with
   | none => rw [hq] at h5; cases h5
   | some i =>
    rw [hq] at h5
    have : i.size = 1 := by simpa using h5
    rw [<- this]
    rw [run_sizeOf w hq]
    simp [Program.cellsOf, hq]
  simp only [he, Instr.storeAt, Instr.sureAddr, storeVar, Sem.run_bind, hsz, Result.andThen_ok, Sem.run_pure]
  simp [ZCC hone, storeCells, hst]
 refine wpList_plain rfl fun K hK => ?_
 unfold Oper.wp
 rw [hrun]
 have hgr' : w.grownBy (w.setCell ⟨b, k, none⟩ (a.eval x)) (ZS v e R xs).blk := by
  show w.grownBy _ v.ownBlock
  rw [hob]; exact hgr
 exact hK _ _ (h.on (hh.write hgr' (.inl rfl) hok') (Fr.put (hf.mono fun _ _ hd => Z9 (o' := ZS v e R (xs.set k y)) hgr' (.inl rfl) hd) (d := dA) trivial))
end
section
variable {P : Program} {f : FuncId} {ds : List Dat} {hp1 : List HObj} {K K' : Dat -> List HObj -> Prop}
theorem ZDK {P0 : Nat -> Prop} {B : Nat} {w0 w : World} : ∀ (junk hp : List HObj), Hp P0 B w0 (junk ++ hp) w -> Hp P0 B w0 hp w
 | [], _, h => h
 | _ :: junk, hp, h => ZDK junk hp (Hp.drop h)
theorem ZEV (h : CallC P f ds hp1 K) (hK : ∀ d hp2, K d hp2 -> ∃ junk hp3, hp2.Perm (junk ++ hp3) /\ K' d hp3) : CallC P f ds hp1 K' := ⟨fun P0 B w0 hp vs W hh hl hv => by
 refine Calls.mono (h.out P0 B w0 hp vs W hh hl hv) fun e W' ⟨v, d, hp2, he, hk, hh2, hd⟩ => ?_
 obtain ⟨junk, hp3, hperm, hk3⟩ := hK d hp2 hk
 obtain ⟨h3, h4⟩ := hh2.perm (hperm.append_right hp)
 rw [List.append_assoc] at h3 h4
 refine ⟨v, d, hp3, he, hk3, ZDK junk _ h3, d.weak hd fun k hk => ?_⟩
 have := (h4 k).1 hk
 exact ⟨this.1, fun o ho => this.2 o (List.mem_append.2 (.inr ho))⟩⟩
end
end
section
open Go.RowKit

def ZFy : Nat -> List (Value × Value) -> List MapEntry
 | _, [] => []
 | i, p :: m => ⟨p.1, p.2, i⟩ :: ZFy (i + 1) m
def ZEA (m : List (Value × Value)) : Obj := .map (ZFy 0 m).toArray m.length
structure KeyT (P : Program) (k : TypeId) {K : Type} (kv : K -> Value) (ok : K -> Prop) : Prop where
 law : Go.Maps.Keyed P k
 lit : ∀ x, ok x -> ∃ l, keyOf P k (kv x) = some l
 inj : ∀ x y, ok x -> ok y -> kv x = kv y -> x = y
structure MapT (P : Program) (t k e : TypeId) (z : Value) : Prop where
 under : P.underlying t = some (.map k e)
 zero : ∀ w, (zeroValue e).run P w = .ok z w
section
variable {P : Program} {k t e : TypeId} {z : Value} {K V : Type} {kv : K -> Value} {ok : K -> Prop} {vv : V -> Value}
def encM (kv : K -> Value) (vv : V -> Value) (m : List (K × V)) : List (Value × Value) := m.map fun p => (kv p.1, vv p.2)
end
end
section
open Go.RowKit

abbrev hM {K V : Type} (b : Nat) (kv : K -> Value) (vv : V -> Value) (m : List (K × V)) : HObj := ZN9 b (ZEA (encM kv vv m))
structure IsV (d : Dat) (v : Value) : Prop where
 is : ∀ (I : Nat -> Prop) (w : World) (u : Value), d.rd I w u -> u = v
theorem isX {v : Value} : IsV (dX v) v := ⟨fun _ _ _ h => h⟩
theorem isI {n : Int} : IsV (dI n) (.int .i64 n) := ⟨fun _ _ _ h => h⟩
theorem isB {b : Bool} : IsV (dB b) (.bool b) := ⟨fun _ _ _ h => h⟩
section
variable {P : Program} {ops : Array Oper} {hp : List HObj} {o : Oper} {fr : List Dat} {d d2 : Dat} {Q : ZAb} {rest : List Oper}
variable {dst : Option Tmp} {ty : TypeId} {ps : String} {af : Array Edge} {g : Option (Nat × Bool)} {t k e : TypeId} {z : Value} {K V : Type} {kv : K -> Value} {ok : K -> Prop} {vv : V -> Value} {b : Nat} {m : List (K × V)}
theorem WL.makeMap (kv : K -> Value) (vv : V -> Value) (h : ∀ b, WL P ops Q rest (ZB fr dst (dX (.map (some b)))) (hM b kv vv [] :: hp)) :
  WL P ops Q (⟨dst, .makeMap t none, ty, ps, af, none⟩ :: rest) fr hp := by
 refine WL.of fun P0 B w0 w a hh hf => ?_
 have hrun : (execOp a.eval ⟨dst, .makeMap t none, ty, ps, af, none⟩).run P w = .ok (.value (.map (some w.heap.size))) (w.alloc (ZEA [])) := by
  unfold execOp
  simp [Instr.makeMap, ZEA, ZFy]
 refine Z6 rfl hrun ?_
 have hx := ZF w (ZEA [])
 have hb : ∀ k, (hM w.heap.size kv vv []).blk = some k -> w.heap.size ≤ k /\ k < (w.alloc (ZEA [])).heap.size := fun k hk => by
  cases hk
  exact ⟨Nat.le_refl _, by simp⟩
 refine (h w.heap.size).on (hh.push hx hb (ZAT w _)) ?_
 exact Fr.put (hf.mono fun d _ hd => ZAZ hx (fun k hk => (hb k hk).1) hd) rfl
end
end
section
open Go.RowKit
theorem ZDX {α β : Type} (f : α -> β) : ∀ (l : List α) (j : Nat), (l.eraseIdx j).map f = (l.map f).eraseIdx j
 | [], _ => by simp
 | _ :: _, 0 => rfl
 | a :: l, j + 1 => by simp only [List.eraseIdx_cons_succ, List.map_cons]; rw [ZDX f l j]
section
variable {P : Program} {k t e : TypeId} {z : Value} {K V : Type} [DecidableEq K] {kv : K -> Value} {ok : K -> Prop} {vv : V -> Value}
def ZC8 (kv : K -> Value) (vv : V -> Value) (m : List (K × V × Nat)) : List MapEntry := m.map fun p => ⟨kv p.1, vv p.2.1, p.2.2⟩
structure MapOf (ok : K -> Prop) (f : K -> Option V) (m : List (K × V × Nat)) : Prop where
 keys : ∀ p ∈ m, ok p.1
 nodup : (m.map (·.1)).Nodup
 no : ∀ x, (∀ p ∈ m, p.1 ≠ x) -> f x = none
 yes : ∀ p ∈ m, f p.1 = some p.2.1
def upF (f : K -> Option V) (x : K) (v : Option V) : K -> Option V := fun y => if y = x then v else f y
def hG (b : Nat) (kv : K -> Value) (ok : K -> Prop) (vv : V -> Value) (p : (K -> Option V) -> Prop) : HObj where
 blk := some b
 ok := fun _ w => ∃ f m c, p f /\ MapOf ok f m /\ w.heap[b]? = some (.map (ZC8 kv vv m).toArray c)
 weak := fun h _ => h
 bound := fun h => h
 move := fun ⟨f, m, c, h0, h1, h2⟩ hg _ hne => ⟨f, m, c, h0, h1, by
  have hlt : b < _ := (Array.getElem?_eq_some_iff.1 h2).1
  refine (hg.block b hlt ?_).trans h2
  rcases hne with h | h
  ·cases h
  ·exact h⟩
theorem ZEi (H : KeyT P k kv ok) {f : K -> Option V} {m : List (K × V × Nat)} (hm : MapOf ok f m) {x : K} (hx : ok x) (w : World) :
  ((Instr.findKey k (kv x) (ZC8 kv vv m)).run P w = .ok none w /\ (∀ p ∈ m, p.1 ≠ x) /\ f x = none) \/
  ∃ (j : Nat) (h : j < m.length), m[j].1 = x /\ f x = some m[j].2.1 /\ (Instr.findKey k (kv x) (ZC8 kv vv m)).run P w = .ok (some (j, vv m[j].2.1)) w := by
 obtain ⟨lx, hlx⟩ := H.lit x hx
 have hk : ∀ en ∈ ZC8 kv vv m, ∃ l, keyOf P k en.key = some l := fun en hen => by
  obtain ⟨p, hp, rfl⟩ := List.mem_map.1 hen
  exact H.lit _ (hm.keys p hp)
 rcases H.law.find w hlx _ hk with ⟨h1, h2⟩ | ⟨j, en, h1, h2, h3⟩
 ·have hne : ∀ p ∈ m, p.1 ≠ x := fun p hp hpx => h2 _ (List.mem_map_of_mem hp) (by show kv p.1 = kv x; rw [hpx])
  exact .inl ⟨h1, hne, hm.no x hne⟩
 ·unfold ZC8 at h2
  rw [List.getElem?_map] at h2
  obtain ⟨p, hp, rfl⟩ := Option.map_eq_some_iff.1 h2
  obtain ⟨hj, rfl⟩ := List.getElem?_eq_some_iff.1 hp
  have hkx : m[j].1 = x := H.inj _ _ (hm.keys _ (List.getElem_mem hj)) hx h3
  exact .inr ⟨j, hj, hkx, by rw [<- hkx]; exact hm.yes _ (List.getElem_mem hj), h1⟩
theorem ZNF {m : List (K × V × Nat)} {j : Nat} (hj : j < m.length) : (ZC8 kv vv m)[j]? = some ⟨kv m[j].1, vv m[j].2.1, m[j].2.2⟩ := by
 unfold ZC8; rw [List.getElem?_map, List.getElem?_eq_getElem hj]; rfl
theorem MapOf.at {f : K -> Option V} {m : List (K × V × Nat)} (h : MapOf ok f m) {i j : Nat} (hi : i < m.length) (hj : j < m.length) (e : m[i].1 = m[j].1) : i = j := by
 have h3 : (m.map (·.1))[i]'(by simpa using hi) = (m.map (·.1))[j]'(by simpa using hj) := by simpa using e
 exact (List.getElem_inj h.nodup).1 h3
theorem MapOf.set {f : K -> Option V} {m : List (K × V × Nat)} (h : MapOf ok f m) {j : Nat} (hj : j < m.length) (v : V) : MapOf ok (upF f m[j].1 (some v)) (m.set j (m[j].1, v, m[j].2.2)) := by
 have hks : (m.set j (m[j].1, v, m[j].2.2)).map (·.1) = m.map (·.1) := by
  rw [List.map_set]
  apply List.ext_getElem (by simp)
  intro i h1 h2
  rw [List.getElem_set]
  split
  ·rename_i e; subst e; simp
  ·rfl
 refine ⟨fun p hp => ?_, by rw [hks]; exact h.nodup, fun x hx => ?_, fun p hp => ?_⟩
 ·rcases List.mem_or_eq_of_mem_set hp with hp | rfl
  ·exact h.keys p hp
  ·exact h.keys m[j] (List.getElem_mem hj)
 ·have hx' : ∀ p ∈ m, p.1 ≠ x := fun p hp e => by
   have : p.1 ∈ (m.set j (m[j].1, v, m[j].2.2)).map (·.1) := by rw [hks]; exact List.mem_map_of_mem hp
   obtain ⟨q, hq, e'⟩ := List.mem_map.1 this
   exact hx q hq (e'.trans e)
  unfold upF
  rw [if_neg fun e => hx' _ (List.getElem_mem hj) e.symm]
  exact h.no x hx'
 ·obtain ⟨i, hi, rfl⟩ := List.mem_iff_getElem.1 hp
  rw [List.length_set] at hi
  rw [List.getElem_set]
  unfold upF
  by_cases e : j = i
  ·rw [if_pos e]; exact if_pos rfl
  ·rw [if_neg e, if_neg fun q => e (h.at hi hj q).symm]
   exact h.yes _ (List.getElem_mem hi)
theorem MapOf.push {f : K -> Option V} {m : List (K × V × Nat)} (h : MapOf ok f m) {x : K} (hx : ok x) (hn : ∀ p ∈ m, p.1 ≠ x) (v : V) (c : Nat) : MapOf ok (upF f x (some v)) (m ++ [(x, v, c)]) := by
 refine ⟨fun p hp => ?_, ?_, fun y hy => ?_, fun p hp => ?_⟩
 ·rcases List.mem_append.1 hp with hp | hp
  ·exact h.keys p hp
  ·rw [List.mem_singleton.1 hp]; exact hx
 ·rw [List.map_append, List.nodup_append]
  refine ⟨h.nodup, by simp, fun a ha b hb e => ?_⟩
  obtain ⟨p, hp, rfl⟩ := List.mem_map.1 ha
  simp only [List.map_cons, List.map_nil, List.mem_singleton] at hb
  exact hn p hp (e.trans hb)
 ·unfold upF
  rw [if_neg fun e => hy (x, v, c) (by simp) e.symm]
  exact h.no y fun p hp => hy p (List.mem_append_left _ hp)
 ·unfold upF
  rcases List.mem_append.1 hp with hp | hp
  ·rw [if_neg (hn p hp)]; exact h.yes p hp
  ·rw [List.mem_singleton.1 hp]; exact if_pos rfl
theorem MapOf.erase {f : K -> Option V} {m : List (K × V × Nat)} (h : MapOf ok f m) {j : Nat} (hj : j < m.length) : MapOf ok (upF f m[j].1 none) (m.eraseIdx j) := by
 have hsub := List.eraseIdx_sublist m j
 have hmem : ∀ p, p ∈ m.eraseIdx j ↔ ∃ i, ∃ hi : i < m.length, i ≠ j /\ m[i] = p := fun p => by
  rw [List.mem_eraseIdx_iff_getElem]
  try (constructor <;> (rintro ⟨i, hi, h1, h2⟩; exact ⟨i, hi, h1, h2⟩))
 refine ⟨fun p hp => h.keys p (hsub.subset hp), List.Nodup.sublist (hsub.map _) h.nodup, fun x hx => ?_, fun p hp => ?_⟩
 ·unfold upF
  by_cases e : x = m[j].1
  ·rw [if_pos e]
  ·rw [if_neg e]
   refine h.no x fun p hp q => ?_
   obtain ⟨i, hi, rfl⟩ := List.mem_iff_getElem.1 hp
   exact hx m[i] ((hmem _).2 ⟨i, hi, fun e' => by subst e'; exact e q.symm, rfl⟩) q
 ·obtain ⟨i, hi, hne, rfl⟩ := (hmem p).1 hp
  unfold upF
  rw [if_neg fun q => hne (h.at hi hj q)]
  exact h.yes _ (List.getElem_mem hi)
theorem MapOf.gone {f : K -> Option V} {m : List (K × V × Nat)} (h : MapOf ok f m) {x : K} (hn : f x = none) : MapOf ok (upF f x none) m := by
 have : upF f x none = f := by
  funext y
  unfold upF
  by_cases e : y = x
  ·rw [if_pos e, e, hn]
  ·rw [if_neg e]
 rw [this]; exact h
section
variable {f : K -> Option V} {w : World} {b : Nat} {x : K}
theorem ZG3 (T : MapT P t k e z) (H : KeyT P k kv ok) (hx : ok x) {m : List (K × V × Nat)} {cl : Nat} (hm : MapOf ok f m) (hb : w.heap[b]? = some (.map (ZC8 kv vv m).toArray cl)) (c : Bool) :
  (Instr.lookup t (.map (some b)) (kv x) c).run P w = .ok (if c then .tuple #[((f x).map vv).getD z, .bool (f x).isSome] else ((f x).map vv).getD z) w := by
 obtain ⟨lx, hlx⟩ := H.lit x hx
 have hg := MapKept.run_getObj_map (P := P) hb
 rcases ZEi (vv := vv) H hm hx w with ⟨h1, h2, h3⟩ | ⟨j, hj, h1, h3, h2⟩
 ·rw [h3]
  simp [Instr.lookup, run_underlying T.under, hg, H.law.check w _ hlx, h1, T.zero, Result.andThen]
 ·rw [h3]
  simp [Instr.lookup, run_underlying T.under, hg, H.law.check w _ hlx, h2, Result.andThen]
theorem ZMI (T : MapT P t k e z) (H : KeyT P k kv ok) (hx : ok x) (v : V) {m : List (K × V × Nat)} {cl : Nat} (hm : MapOf ok f m) (hb : w.heap[b]? = some (.map (ZC8 kv vv m).toArray cl)) :
  ∃ m' cl', MapOf ok (upF f x (some v)) m' /\ (Instr.mapUpdate t (.map (some b)) (kv x) (vv v)).run P w = .ok () (w.putObj b (.map (ZC8 kv vv m').toArray cl')) := by
 obtain ⟨lx, hlx⟩ := H.lit x hx
 have hg := MapKept.run_getObj_map (P := P) hb
 rcases ZEi (vv := vv) H hm hx w with ⟨h1, h2, h3⟩ | ⟨j, hj, h1, h3, h2⟩
 ·refine ⟨m ++ [(x, v, cl)], cl + 1, hm.push hx h2 v cl, ?_⟩
  have e1 : (ZC8 kv vv (m ++ [(x, v, cl)])).toArray = (ZC8 kv vv m).toArray.push ⟨kv x, vv v, cl⟩ := by unfold ZC8; simp
  rw [e1]
  simp [Instr.mapUpdate, run_underlying T.under, hg, H.law.check w _ hlx, h1, MapKept.run_setObj_map _ hb, Result.andThen, World.putObj]
 ·subst h1
  refine ⟨m.set j (m[j].1, v, m[j].2.2), cl, hm.set hj v, ?_⟩
  have hat := ZNF (kv := kv) (vv := vv) hj
  have e1 : (ZC8 kv vv (m.set j (m[j].1, v, m[j].2.2))).toArray = (ZC8 kv vv m).toArray.modify j fun en => { en with key := kv m[j].1, val := vv v } := by
   apply Array.ext'
   rw [Array.toList_modify, ChangeMaps.modify_eq_set _ _ _ _ (by simpa using hat)]
   unfold ZC8
   simp [List.map_set]
  rw [e1]
  simp [Instr.mapUpdate, run_underlying T.under, hg, H.law.check w _ hlx, h2, hat, H.law.stays w hlx, MapKept.run_setObj_map _ hb, Result.andThen, World.putObj]
theorem ZMH {ty : TypeId} (T : MapT P t k e z) (H : KeyT P k kv ok) (hx : ok x) {m : List (K × V × Nat)} {cl : Nat} (hm : MapOf ok f m) (hb : w.heap[b]? = some (.map (ZC8 kv vv m).toArray cl)) :
  ∃ m' cl', MapOf ok (upF f x none) m' /\ (Builtin.delete_ #[t, k] ty #[.map (some b), kv x]).run P w = .ok (.tuple #[]) (w.putObj b (.map (ZC8 kv vv m').toArray cl')) := by
 obtain ⟨lx, hlx⟩ := H.lit x hx
 have hg := MapKept.run_getObj_map (P := P) hb
 rcases ZEi (vv := vv) H hm hx w with ⟨h1, h2, h3⟩ | ⟨j, hj, h1, h3, h2⟩
 ·refine ⟨m, cl, hm.gone h3, ?_⟩
  simp [Builtin.delete_, run_underlying T.under, hg, H.law.check w _ hlx, h1, MapKept.run_setObj_map _ hb, Result.andThen, World.putObj]
 ·subst h1
  refine ⟨m.eraseIdx j, cl, hm.erase hj, ?_⟩
  have hl : (ZC8 kv vv m).length = m.length := by simp [ZC8]
  have e1 : (ZC8 kv vv (m.eraseIdx j)).toArray = (ZC8 kv vv m).toArray.eraseIdxIfInBounds j := by
   apply Array.ext'
   unfold ZC8
   simp only [Array.toList_eraseIdxIfInBounds]
   exact ZDX _ _ _
  rw [e1]
  simp [Builtin.delete_, run_underlying T.under, hg, H.law.check w _ hlx, h2, MapKept.run_setObj_map _ hb, Result.andThen, World.putObj]
end
end
section
variable {P : Program} {ops : Array Oper} {hp : List HObj} {o : Oper} {fr : List Dat} {d d2 : Dat} {Q : ZAb} {rest : List Oper}
variable {dst : Option Tmp} {ty : TypeId} {ps : String} {af : Array Edge} {g : Option (Nat × Bool)} {t k e : TypeId} {z : Value} {K V : Type} [DecidableEq K] {kv : K -> Value} {ok : K -> Prop} {vv : V -> Value} {b : Nat} {f : K -> Option V} {p p' : (K -> Option V) -> Prop}
theorem ZCr {x y : Operand} {v : K} (T : MapT P t k e z) (H : KeyT P k kv ok) (hx : OpD fr x (dX (.map (some b)))) (hm : hG b kv ok vv p ∈ hp) (hy : OpD fr y d) (hd : IsV d (kv v)) (ho : ok v) {α : Type} {R : Rel α} {_gR : Good R} {u : α} (hu : ∀ (I : Nat -> Prop) (w : World) (f : K -> Option V), p f -> R I w (((f v).map vv).getD z) u) :
  SY P ops hp ⟨dst, .lookup t x y false, ty, ps, af, g⟩ fr (dS R u) := ZAm fun {P0 B w0 w a} hh hon => by
 have h1 : a.eval x = _ := hx.get (by simp [Op.operands]) hon
 have h2 := hd.is _ _ _ (hy.get (by simp [Op.operands]) hon)
 obtain ⟨f, m, c, hp, hm1, hm2⟩ := hh.ok _ hm
 refine ⟨_, w, ?_, Ext.refl _, hu _ _ f hp⟩
 unfold execOp
 simp only [h1, h2, Sem.run_bind, ZG3 T H ho hm1 hm2 false, Result.andThen_ok, Sem.run_pure]
 rfl
theorem ZJk {x y : Operand} {v : K} (T : MapT P t k e z) (H : KeyT P k kv ok) (hx : OpD fr x (dX (.map (some b)))) (hm : hG b kv ok vv p ∈ hp) (hy : OpD fr y d) (hd : IsV d (kv v)) (ho : ok v) {u : Value} {c : Bool} (hu : ∀ f, p f -> ((f v).map vv).getD z = u /\ (f v).isSome = c) :
  SY P ops hp ⟨dst, .lookup t x y true, ty, ps, af, g⟩ fr (dT [dX u, dB c]) := ZAm fun {P0 B w0 w a} hh hon => by
 have h1 : a.eval x = _ := hx.get (by simp [Op.operands]) hon
 have h2 := hd.is _ _ _ (hy.get (by simp [Op.operands]) hon)
 obtain ⟨f, m, cl, hp, hm1, hm2⟩ := hh.ok _ hm
 obtain ⟨e1, e2⟩ := hu f hp
 refine ⟨_, w, ?_, Ext.refl _, [((f v).map vv).getD z, .bool (f v).isSome], rfl, rfl, fun i e x he hx => ?_⟩
 ·unfold execOp
  simp only [h1, h2, Sem.run_bind, ZG3 T H ho hm1 hm2 true, Result.andThen_ok, Sem.run_pure]
  rfl
 ·match i, he, hx with
  | 0, he, hx => cases he; cases hx; exact e1
  | 1, he, hx => cases he; cases hx; show _ = _; rw [e2]
theorem ZHP {P0 : Nat -> Prop} {B : Nat} {w0 w : World} {f' : K -> Option V} {m' : List (K × V × Nat)} {c' : Nat} (h : Hp P0 B w0 (hG b kv ok vv p :: hp) w) (hp' : p' f') (hm : MapOf ok f' m') : Hp P0 B w0 (hG b kv ok vv p' :: hp) (w.putObj b (.map (ZC8 kv vv m').toArray c')) := by
 obtain ⟨f, m, c, _, _, hl⟩ := h.ok (hG b kv ok vv p) (by simp)
 exact h.write (o' := hG b kv ok vv p') (ZCi w b _) (.inl rfl) ⟨f', m', c', hp', hm, World.putObj_heap_same (Array.getElem?_eq_some_iff.1 hl).1⟩
theorem ZDe {P0 : Nat -> Prop} {B : Nat} {w : World} {o : Obj} {v : Value} (hd : d.rd (Imm P0 B (hG b kv ok vv p :: hp)) w v) : d.rd (Imm P0 B (hG b kv ok vv p' :: hp)) (w.putObj b o) v :=
 Z9 (o := hG b kv ok vv p) (o' := hG b kv ok vv p') (ZCi w b o) (.inl rfl) hd
theorem ZIX {x y c : Operand} {v : K} {u : V} {w : World} {a : Act} (T : MapT P t k e z) (H : KeyT P k kv ok) (h1 : a.eval x = .map (some b)) (h2 : a.eval y = kv v) (h3 : a.eval c = vv u) (ho : ok v) {m : List (K × V × Nat)} {cl : Nat} (hm1 : MapOf ok f m) (hm2 : w.heap[b]? = some (.map (ZC8 kv vv m).toArray cl)) :
  ∃ m' cl', MapOf ok (upF f v (some u)) m' /\ (execOp a.eval ⟨dst, .mapUpdate t x y c, ty, ps, af, g⟩).run P w = .ok .skip (w.putObj b (.map (ZC8 kv vv m').toArray cl')) := by
 obtain ⟨m', cl', hm', hr⟩ := ZMI T H ho u hm1 hm2
 refine ⟨m', cl', hm', ?_⟩
 unfold execOp
 simp only [h1, h2, h3, Sem.run_bind, hr, Result.andThen_ok, Sem.run_pure]
theorem MapOf.nil : MapOf ok (fun _ : K => (none : Option V)) [] := ⟨by simp, by simp, fun _ _ => rfl, by simp⟩
theorem ZBd (kv : K -> Value) (ok : K -> Prop) (vv : V -> Value) (p : (K -> Option V) -> Prop) (h0 : p fun _ => none) (h : ∀ b, WL P ops Q rest (ZB fr dst (dX (.map (some b)))) (hG b kv ok vv p :: hp)) :
  WL P ops Q (⟨dst, .makeMap t none, ty, ps, af, none⟩ :: rest) fr hp := by
 refine WL.of fun P0 B w0 w a hh hf => ?_
 have hrun : (execOp a.eval ⟨dst, .makeMap t none, ty, ps, af, none⟩).run P w = .ok (.value (.map (some w.heap.size))) (w.alloc (.map (ZC8 kv vv []).toArray 0)) := by
  unfold execOp
  simp [Instr.makeMap, ZC8]
 refine Z6 rfl hrun ?_
 have hx := ZF w (.map (ZC8 kv vv []).toArray 0)
 have hb : ∀ k, (hG w.heap.size kv ok vv p).blk = some k -> w.heap.size ≤ k /\ k < (w.alloc (.map (ZC8 kv vv []).toArray 0)).heap.size := fun k hk => by
  cases hk
  exact ⟨Nat.le_refl _, by simp⟩
 refine (h w.heap.size).on (hh.push hx hb ⟨_, [], 0, h0, MapOf.nil, ZAT w _⟩) ?_
 exact Fr.put (hf.mono fun d _ hd => ZAZ hx (fun k hk => (hb k hk).1) hd) rfl
end
end
section
open Go.RowKit
theorem CallC.monoK {P : Program} {f : FuncId} {ds : List Dat} {hp1 : List HObj} {K K' : Dat -> List HObj -> Prop} (h : CallC P f ds hp1 K) (k : ∀ d hp2, K d hp2 -> K' d hp2) : CallC P f ds hp1 K' :=
 ⟨fun P0 B w0 hp vs W hh hl hv => (h.out P0 B w0 hp vs W hh hl hv).mono fun _ _ ⟨v, d, hp2, e, hk, r⟩ => ⟨v, d, hp2, e, k d hp2 hk, r⟩⟩
namespace I
end I
end
section
open Go.RowKit
def RVal : Rel Value := fun _ _ v x => v = x
instance : Good RVal := ⟨fun h _ => h, fun h _ => h, fun h => h⟩
def ZJe : Rel Value := fun _ _ v x => v = x /\ x.oneCell' = true
instance : Good ZJe := ⟨fun h _ => h, fun h _ => h, fun h => h⟩
theorem ZNm {a : Value} : (dS ZJe a).Shape 1 false := fun I w v h => Z8 (show a.oneCell' = true from (h : _ /\ _).2) I w v (show v = a from (h : _ /\ _).1)
theorem le_RX {a : Value} : (dS ZJe a).le (dX a) := fun _ _ _ h => (h : _ /\ _).1
theorem le_XR {a : Value} (h : a.oneCell' = true) : (dX a).le (dS ZJe a) := fun _ _ _ q => ⟨q, h⟩
def ZHZ (v : Value) (k : Nat) : Value := match v with
 | .slice (some ad) _ cap => .slice (some ad) k cap
 | v => v
def ZEj (v : Value) (l : Nat) : Value := match v with
 | .slice (some ⟨b, o, s⟩) n cap => .slice (some ⟨b, if cap = l then o else o + l, s⟩) (n - l) (cap - l)
 | v => v
section
variable {P : Program} {ops : Array Oper} {hp : List HObj} {o : Oper} {fr : List Dat} {d : Dat} {Q : ZAb} {rest : List Oper} {c : Code}
variable {dst : Option Tmp} {ty : TypeId} {ps : String} {af : Array Edge} {g : Option (Nat × Bool)} {e e' t T : TypeId} {bytes : Nat} {z : Value} {ag : Bool} {α : Type} {R : Rel α} {xs : List α} {v : Value}
theorem ZDY {I : Nat -> Prop} {w : World} (h : Own 0 e R I w v xs) : (v = .slice none 0 0 /\ xs = []) \/ ∃ b cap, v = .slice (some ⟨b, 0, none⟩) xs.length cap /\ xs.length ≤ cap := by
 obtain ⟨us, h1, ⟨h2, h3⟩, h4⟩ := h
 rcases h3 with ⟨hv, hz⟩ | ⟨g, cap, cur, hv, hB, hg, hc1, hc2, hc3, hc4⟩
 ·exact .inl ⟨hv, List.length_eq_zero_iff.1 hz⟩
 ·exact .inr ⟨g, cap, hv, hc1⟩
theorem ZNe {I : Nat -> Prop} {w : World} (h : Own 0 e R I w v xs) {k : Nat} (hk : k ≤ xs.length) : Own 0 e R I w (ZHZ v k) (xs.take k) /\ (ZHZ v k).ownBlock = v.ownBlock := by
 obtain ⟨us, h1, ⟨h2, h3⟩, h4⟩ := h
 rcases h3 with ⟨rfl, hz⟩ | ⟨g, cap, cur, rfl, hB, hg, hc1, hc2, hc3, hc4⟩
 ·have : xs = [] := List.length_eq_zero_iff.1 hz
  subst this
  rw [List.take_nil]
  exact ⟨Own.nil, rfl⟩
 ·refine ⟨⟨us.take k, by simp; omega, ⟨by simp; omega, .inr ⟨g, cap, cur, by simp [ZHZ, Nat.min_eq_left hk], hB, hg, by simp; omega, hc2, ?_, ?_⟩⟩, fun j q1 q2 => ?_⟩, rfl⟩
  ·try simp only [List.length_take, Nat.mul_one] at hc3 ⊢
   omega
  ·rw [Nat.mul_one] at hc4
   simp only [List.length_take, Nat.min_eq_left hk, Nat.mul_one]
   rw [<- hc4, List.take_take, Nat.min_eq_left hk]
  ·rw [List.length_take] at q1 q2
   rw [List.getElem_take, List.getElem_take]
   exact h4 j (by omega) (by omega)
theorem ZFp {_gR : Good R} {k : Nat} (hk : k ≤ xs.length) (h : WL P ops Q rest fr (ZS (ZHZ v k) e R (xs.take k) :: hp)) : WL P ops Q rest fr (ZS v e R xs :: hp) := WL.of fun P0 B w0 w a hh hf => by
 have hok := hh.ok (ZS v e R xs) (by simp)
 obtain ⟨h1, h2⟩ := ZNe (hok : Own 0 e R _ w v xs) hk
 have hgr : w.grownBy w (ZS v e R xs).blk := ⟨rfl, rfl, rfl, Nat.le_refl _, fun _ _ _ => rfl⟩
 exact h.on (hh.write (o' := ZS (ZHZ v k) e R (xs.take k)) hgr (.inl h2) ((ZS (ZHZ v k) e R (xs.take k)).bound h1)) (hf.mono fun _ _ hd => Z9 (o' := ZS (ZHZ v k) e R (xs.take k)) hgr (.inl h2) hd)
theorem SY.uptoR {_gR : Good R} {x y : Operand} {k : Nat} {j : Int} (E : ElT P t e 1 z bytes ag) (hx : OpD fr x (dX v)) (hm : ZS v e' R xs ∈ hp) (hy : OpD fr y (dI j)) (hj : j = (k : Int)) (hk : k ≤ xs.length) :
  SY P ops hp ⟨dst, .slice t x none (some y) none, ty, ps, af, g⟩ fr (dX (ZHZ v k)) := ZAm fun {P0 B w0 w a} hh ho => by
 have h1 : a.eval x = v := hx.get (by simp [Op.operands]) ho
 have h2 : a.eval y = _ := hy.get (by simp [Op.operands]) ho
 refine ⟨_, w, ?_, Ext.refl _, rfl⟩
 rcases ZDY (hh.ok _ hm) with ⟨rfl, rfl⟩ | ⟨b, cap, rfl, hc⟩
 ·have hk0 : k = 0 := by simpa using hk
  subst hk0
  have hr := ZBn (w := w) (ad := none) (len := 0) (cap := 0) (lo := none) (hi := some (.int .i64 ((0 : Nat) : Int))) (l := 0) (h := 0) E (.inl ⟨rfl, rfl⟩) (.inr ⟨_, rfl⟩) (by omega) (by omega)
  unfold execOp
  simp only [h1, h2, hj, Option.map_none, Option.map_some, Sem.run_bind, hr, Result.andThen_ok, Sem.run_pure]
  rfl
 ·have hr := ZBn (w := w) (ad := some ⟨b, 0, none⟩) (len := xs.length) (cap := cap) (lo := none) (hi := some (.int .i64 (k : Int))) (l := 0) (h := k) E (.inl ⟨rfl, rfl⟩) (.inr ⟨_, rfl⟩) (by omega) (by omega)
  unfold execOp
  simp only [h1, h2, hj, Option.map_none, Option.map_some, Sem.run_bind, hr, Result.andThen_ok, Sem.run_pure]
  simp [ZHZ, Addr.add_lit]
theorem SY.fromR {_gR : Good R} {x y : Operand} {l : Nat} {j : Int} (E : ElT P t e 1 z bytes ag) (hx : OpD fr x (dX v)) (hm : ZS v e' R xs ∈ hp) (hy : OpD fr y (dI j)) (hj : j = (l : Int)) (hl : l ≤ xs.length) :
  SY P ops hp ⟨dst, .slice t x (some y) none none, ty, ps, af, g⟩ fr (dX (ZEj v l)) := ZAm fun {P0 B w0 w a} hh ho => by
 have h1 : a.eval x = v := hx.get (by simp [Op.operands]) ho
 have h2 : a.eval y = _ := hy.get (by simp [Op.operands]) ho
 refine ⟨_, w, ?_, Ext.refl _, rfl⟩
 rcases ZDY (hh.ok _ hm) with ⟨rfl, rfl⟩ | ⟨b, cap, rfl, hc⟩
 ·have hk0 : l = 0 := by simpa using hl
  subst hk0
  have hr := ZBn (w := w) (ad := none) (len := 0) (cap := 0) (lo := some (.int .i64 ((0 : Nat) : Int))) (hi := none) (l := 0) (h := 0) E (.inr ⟨_, rfl⟩) (.inl ⟨rfl, rfl⟩) (by omega) (by omega)
  unfold execOp
  simp only [h1, h2, hj, Option.map_none, Option.map_some, Sem.run_bind, hr, Result.andThen_ok, Sem.run_pure]
  rfl
 ·have hr := ZBn (w := w) (ad := some ⟨b, 0, none⟩) (len := xs.length) (cap := cap) (lo := some (.int .i64 (l : Int))) (hi := none) (l := l) (h := xs.length) E (.inr ⟨_, rfl⟩) (.inl ⟨rfl, rfl⟩) (by omega) (by omega)
  unfold execOp
  simp only [h1, h2, hj, Option.map_none, Option.map_some, Sem.run_bind, hr, Result.andThen_ok, Sem.run_pure]
  simp only [ZEj]
  split <;> simp_all [Addr.add_lit]
theorem ZDg {_gR : Good R} {x : Operand} {ats : TypeId} {l : Nat} (hu : P.underlying ats = some (.slice e)) (hx : OpD fr x (dX (ZEj v l))) (hm : ZS v e' R xs ∈ hp) (hl : l ≤ xs.length) :
  SY P ops hp ⟨dst, .call { callee := .builtin .len, args := #[x], argTypes := #[ats] }, ty, ps, af, g⟩ fr (dI (((xs.length - l : Nat) : Nat) : Int)) := ZAm fun {P0 B w0 w a} hh hon => by
 have h1 : a.eval x = _ := hx.get (by simp [Op.operands, Call.operands]) hon
 refine ⟨.int .i64 ((xs.length - l : Nat) : Int), w, ?_, Ext.refl _, rfl⟩
 have hr : (Builtin.len_ #[ats] ty #[ZEj v l]).run P w = .ok (.int .i64 ((xs.length - l : Nat) : Int)) w := by
  rcases ZDY (hh.ok _ hm) with ⟨rfl, rfl⟩ | ⟨b, cap, rfl, hc⟩
  ·have hk0 : l = 0 := by simpa using hl
   subst hk0
   simp [ZEj, Builtin.len_, run_underlying hu, Result.andThen, goInt]
  ·simp [ZEj, Builtin.len_, run_underlying hu, Result.andThen, goInt]
 unfold execOp
 simp [resolve, invoke, builtin, h1, hr, Result.andThen]
theorem ZCa {_gR : Good R} {x i : Operand} {k l : Nat} {j : Int} (E : ElT P t e 1 z bytes ag) (hx : OpD fr x (dX (ZEj v l))) (hm : ZS v e' R xs ∈ hp) (hi : OpD fr i (dI j)) (hj : j = (k : Int)) (hk : l + k < xs.length) :
  SY P ops hp ⟨dst, .indexAddr t x i, ty, ps, af, g⟩ fr (dX (ZBD v (l + k))) := ZAm fun {P0 B w0 w a} hh ho => by
 have h1 : a.eval x = _ := hx.get (by simp [Op.operands]) ho
 have h2 : a.eval i = _ := hi.get (by simp [Op.operands]) ho
 obtain ⟨b, cap, us, hv, _⟩ := ZHj (hh.ok _ hm) hk
 have hcl : xs.length ≤ cap := by
  rcases ZDY (hh.ok _ hm) with ⟨rfl, rfl⟩ | ⟨b', cap', hv', hc⟩
  ·simp at hk
  ·rw [hv] at hv'; injection hv' with _ _ h3; omega
 refine ⟨.pointer (some ⟨b, l + k * 1, none⟩), w, ?_, Ext.refl _, ?_⟩
 ·have hfv : ZEj v l = .slice (some ⟨b, l, none⟩) (xs.length - l) (cap - l) := by
   have hne : ¬ cap = l := by omega
   rw [hv]
   show Value.slice (some ⟨b, if cap = l then 0 else 0 + l, none⟩) (xs.length - l) (cap - l) = _
   rw [if_neg hne, Nat.zero_add]
  unfold execOp
  simp only [h1, hfv, h2, hj, Sem.run_bind, ZAp (w := w) E b l (xs.length - l) (cap - l) k .i64 (by omega), Result.andThen_ok, Sem.run_pure]
 ·show _ = ZBD v (l + k)
  rw [hv]; simp [ZBD]
end
section
variable {ι : Type} [DecidableEq ι] {u : ι -> Value} {e : TypeId} {c : ι -> List Int} {L : List ι} {i : ι} {A B : List HObj}
def gO (L : List ι) (u : ι -> Value) (e : TypeId) (c : ι -> List Int) : List HObj := L.map fun i => ZS (u i) e RI (c i)
omit [DecidableEq ι] in
theorem ZMb (h : i ∈ L) : ZS (u i) e RI (c i) ∈ gO L u e c := List.mem_map.2 ⟨i, h, rfl⟩
theorem ZKP (h : i ∈ L) : (gO L u e c).Perm (ZS (u i) e RI (c i) :: gO (L.erase i) u e c) := by
 have := (List.perm_cons_erase h).map fun i => ZS (u i) e RI (c i)
 simpa [gO] using this
theorem ZNN (hn : L.Nodup) (h : i ∈ L) {u' : ι -> Value} {c' : ι -> List Int} (hu : ∀ j, j ≠ i -> u' j = u j) (hc : ∀ j, j ≠ i -> c' j = c j) : (ZS (u' i) e RI (c' i) :: gO (L.erase i) u e c).Perm (gO L u' e c') := by
 refine List.Perm.trans (List.Perm.cons _ ?_) (ZKP h).symm
 have : gO (L.erase i) u e c = gO (L.erase i) u' e c' := by
  unfold gO
  refine List.map_congr_left fun j hj => ?_
  have hne : j ≠ i := fun e => by subst e; exact (List.Nodup.not_mem_erase hn) hj
  rw [hu j hne, hc j hne]
 rw [this]
theorem ZIO (h : i ∈ L) : (A ++ (gO L u e c ++ B)).Perm (ZS (u i) e RI (c i) :: (A ++ (gO (L.erase i) u e c ++ B))) := by
 refine ((List.Perm.append_right B (ZKP h)).append_left A).trans ?_
 exact List.perm_middle
theorem ZNO (hn : L.Nodup) (h : i ∈ L) {u' : ι -> Value} {c' : ι -> List Int} (hu : ∀ j, j ≠ i -> u' j = u j) (hc : ∀ j, j ≠ i -> c' j = c j) : (ZS (u' i) e RI (c' i) :: (A ++ (gO (L.erase i) u e c ++ B))).Perm (A ++ (gO L u' e c' ++ B)) := by
 refine List.perm_middle.symm.trans ?_
 exact (List.Perm.append_right B (ZNN hn h hu hc)).append_left A
end
end
end Go.Proofs.YtjmignmnlpamjaaGreat
