/- Part 1: walks by contracts, and plain laws. -/
import Derived.BigQuiet
import Derived.Lib.Hide
import Derived.Maps.AppendAt
import Derived.OwnWalkIn
import Derived.WalkKit
set_option linter.unusedVariables false
set_option linter.unusedSimpArgs false
set_option linter.unusedSectionVars false
set_option maxRecDepth 100000
set_option maxHeartbeats 4000000
namespace Go.Proofs.YtjmignmnlpamjaaGreat
section
open Go.RowKit

abbrev Ext (w w' : World) : Prop := Below w.heap.size w w'
theorem Ext.refl (w : World) : Ext w w := Below.refl _ _
theorem Ext.trans {a b c : World} (h : Ext a b) (k : Ext b c) : Ext a c := Below.trans h (Below.mono k h.size)
theorem Ext.drew {a w : World} (h : Ext a w) : Ext a w.drew := Below.drew h
theorem Ext.drewN {a w : World} (h : Ext a w) (n : Nat) : Ext a (w.drewN n) := ⟨h.os, h.tape, h.output, h.size, h.block⟩
theorem Ext.alloc {a w : World} (h : Ext a w) (o : Obj) : Ext a (w.alloc o) := Below.alloc h h.size o
theorem ZF (w : World) (o : Obj) : Ext w (w.alloc o) := (Ext.refl w).alloc o
theorem ZAC (w : World) (n : Nat) : Ext w (w.drewN n) := (Ext.refl w).drewN n
theorem ZAR {w : World} {a : Addr} {v : Value} (h : w.cell? a = some v) : a.block < w.heap.size := World.block_lt_of_cell? w a h
theorem Ext.cell {w w' : World} (h : Ext w w') {p : Addr} {v : Value} (hc : w.cell? p = some v) : w'.cell? p = some v := (Below.cell h (ZAR hc)).trans hc
theorem Ext.frozen {w w' : World} (h : Ext w w') {p : Addr} (hp : p.block < w.heap.size) : w'.frozen? p = w.frozen? p := Below.frozen h hp
theorem ZEc {B : Nat} {a w w' : World} (h : Below B a w) (hB : B ≤ w.heap.size) (e : Ext w w') : Below B a w' := Below.trans h (Below.mono e hB)

abbrev Rel (α : Type) := (Nat -> Prop) -> World -> Value -> α -> Prop

class Good {α : Type} (R : Rel α) : Prop where
 weak : ∀ {P P' : Nat -> Prop} {w : World} {v : Value} {x : α}, R P w v x -> (∀ k, P k -> P' k) -> R P' w v x
 move : ∀ {P : Nat -> Prop} {w w' : World} {v : Value} {x : α}, R P w v x -> (∀ k, P k -> k < w.heap.size -> w'.heap[k]? = w.heap[k]?) -> R P w' v x
 bound : ∀ {P : Nat -> Prop} {w : World} {v : Value} {x : α}, R P w v x -> R (fun k => P k /\ k < w.heap.size) w v x

theorem Good.ext {α : Type} {R : Rel α} [Good R] {P : Nat -> Prop} {w w' : World} {v : Value} {x : α} (h : R P w v x) (e : Ext w w') : R P w' v x :=
 Good.move h fun k _ hk => Below.block e k hk
theorem Good.grown {α : Type} {R : Rel α} [Good R] {P : Nat -> Prop} {w w' : World} {row : Option Nat} {v : Value} {x : α} (h : R P w v x) (e : w.grownBy w' row) (hr : ∀ k, row = some k -> ¬ P k) : R P w' v x :=
 Good.move h fun k hk hlt => e.block k hlt (fun he => hr k he.symm hk)
abbrev ZEZ : Nat -> Prop := fun _ => True
theorem Good.any {α : Type} {R : Rel α} [Good R] {P : Nat -> Prop} {w : World} {v : Value} {x : α} (h : R P w v x) : R ZEZ w v x := Good.weak h fun _ _ => trivial

def RI : Rel Int := fun _ _ v x => v = .int .i64 x
instance : Good RI := ⟨fun h _ => h, fun h _ => h, fun h => h⟩
def RB : Rel Bool := fun _ _ v x => v = .bool x
instance : Good RB := ⟨fun h _ => h, fun h _ => h, fun h => h⟩
def RV : Rel (Int × Int) := fun _ _ v x => v = .agg #[.int .i64 x.1, .int .i64 x.2]
instance : Good RV := ⟨fun h _ => h, fun h _ => h, fun h => h⟩

theorem ZCd {w w' : World} {a : Addr} (h : w'.heap[a.block]? = w.heap[a.block]?) : w'.cell? a = w.cell? a := World.cell?_of_block h

def Arr {α : Type} (R : Rel α) : Rel (List α) := fun P w v xs =>
 ∃ a cap, v = .slice a xs.length cap /\ xs.length ≤ cap /\ cap ≤ maxLen /\
  ∀ k (h : k < xs.length), ∃ u b off, R P w u xs[k] /\ u.oneCell' = true /\ a = some ⟨b, off, none⟩ /\ P b /\ w.cell? ⟨b, off + k, none⟩ = some u

instance {α : Type} (R : Rel α) [Good R] : Good (Arr R) where
 weak := fun ⟨a, cap, hv, h1, h2, h3⟩ hP => ⟨a, cap, hv, h1, h2, fun k hk => let ⟨u, b, off, r1, r2, r3, r4, r5⟩ := h3 k hk; ⟨u, b, off, Good.weak r1 hP, r2, r3, hP b r4, r5⟩⟩
 move := fun ⟨a, cap, hv, h1, h2, h3⟩ hm => ⟨a, cap, hv, h1, h2, fun k hk => let ⟨u, b, off, r1, r2, r3, r4, r5⟩ := h3 k hk; ⟨u, b, off, Good.move r1 hm, r2, r3, r4, (ZCd (a := ⟨b, off + k, none⟩) (hm b r4 (ZAR r5))).trans r5⟩⟩
 bound := fun ⟨a, cap, hv, h1, h2, h3⟩ => ⟨a, cap, hv, h1, h2, fun k hk => let ⟨u, b, off, r1, r2, r3, r4, r5⟩ := h3 k hk; ⟨u, b, off, Good.bound r1, r2, r3, ⟨r4, ZAR r5⟩, r5⟩⟩

def ArrK {α : Type} (n : Nat) (R : Rel α) : Rel (List α) := fun P w v xs =>
 ∃ a cap, v = .slice a xs.length cap /\ xs.length ≤ cap /\ cap ≤ maxLen /\ 0 < n /\
  ∀ k (h : k < xs.length), ∃ (cs : List Value) (b off : Nat), R P w (.agg cs.toArray) xs[k] /\ cs.length = n /\ (∀ c ∈ cs, c.oneCell' = true) /\ a = some ⟨b, off, none⟩ /\ P b /\
   ∀ j c, cs[j]? = some c -> w.cell? ⟨b, off + k * n + j, none⟩ = some c

instance {α : Type} (n : Nat) (R : Rel α) [Good R] : Good (ArrK n R) where
 weak := fun ⟨a, cap, hv, h1, h2, h0, h3⟩ hP => ⟨a, cap, hv, h1, h2, h0, fun k hk => let ⟨u, b, off, r1, r2, r3, r4, r5, r6⟩ := h3 k hk; ⟨u, b, off, Good.weak r1 hP, r2, r3, r4, hP b r5, r6⟩⟩
 move := fun ⟨a, cap, hv, h1, h2, h0, h3⟩ hm => ⟨a, cap, hv, h1, h2, h0, fun k hk => let ⟨u, b, off, r1, r2, r3, r4, r5, r6⟩ := h3 k hk; ⟨u, b, off, Good.move r1 hm, r2, r3, r4, r5, fun j c hc => (ZCd (a := ⟨b, off + k * n + j, none⟩) (hm b r5 (ZAR (r6 j c hc)))).trans (r6 j c hc)⟩⟩
 bound := fun ⟨a, cap, hv, h1, h2, h0, h3⟩ => ⟨a, cap, hv, h1, h2, h0, fun k hk => let ⟨u, b, off, r1, r2, r3, r4, r5, r6⟩ := h3 k hk; ⟨u, b, off, Good.bound r1, r2, r3, r4, ⟨r5, by
   have hl : 0 < u.length := by omega
   exact ZAR (r6 0 _ (List.getElem?_eq_getElem hl))⟩, r6⟩⟩

abbrev ZW : Rel (List Int) := Arr RI
abbrev Rows : Rel (List (List Int)) := Arr (Arr RI)
theorem Arr.nil {α : Type} {R : Rel α} {P : Nat -> Prop} {w : World} (a : Option Addr) (cap : Nat) (h : cap ≤ maxLen) : Arr R P w (.slice a 0 cap) ([] : List α) :=
 ⟨a, cap, rfl, Nat.zero_le _, h, fun k hk => absurd hk (Nat.not_lt_zero k)⟩
theorem ZCP {α : Type} {R : Rel α} {P : Nat -> Prop} {w : World} : Arr R P w (.slice none 0 0) ([] : List α) := Arr.nil none 0 (by simp [maxLen])
theorem ArrK.nil {α : Type} {n : Nat} (hn : 0 < n) {R : Rel α} {P : Nat -> Prop} {w : World} (a : Option Addr) (cap : Nat) (h : cap ≤ maxLen) : ArrK n R P w (.slice a 0 cap) ([] : List α) :=
 ⟨a, cap, rfl, Nat.zero_le _, h, hn, fun k hk => absurd hk (Nat.not_lt_zero k)⟩
theorem ZJc {α : Type} {n : Nat} (hn : 0 < n) {R : Rel α} {P : Nat -> Prop} {w : World} : ArrK n R P w (.slice none 0 0) ([] : List α) := ArrK.nil hn none 0 (by simp [maxLen])

theorem Arr.ext {α : Type} {R : Rel α} [Good R] {P : Nat -> Prop} {w w' : World} {v : Value} {xs : List α} (h : Arr R P w v xs) (e : Ext w w') : Arr R P w' v xs := Good.ext h e
theorem ArrK.ext {α : Type} {n : Nat} {R : Rel α} [Good R] {P : Nat -> Prop} {w w' : World} {v : Value} {xs : List α} (h : ArrK n R P w v xs) (e : Ext w w') : ArrK n R P w' v xs := Good.ext h e
theorem Arr.any {α : Type} {R : Rel α} [Good R] {P : Nat -> Prop} {w : World} {v : Value} {xs : List α} (h : Arr R P w v xs) : Arr R ZEZ w v xs := Good.any h
theorem ArrK.any {α : Type} {n : Nat} {R : Rel α} [Good R] {P : Nat -> Prop} {w : World} {v : Value} {xs : List α} (h : ArrK n R P w v xs) : ArrK n R ZEZ w v xs := Good.any h

def Len (v : Value) (n : Nat) : Prop := ∃ a cap, v = .slice a n cap
theorem Arr.len {α : Type} {R : Rel α} {P : Nat -> Prop} {w : World} {v : Value} {xs : List α} (h : Arr R P w v xs) : Len v xs.length := let ⟨a, cap, hv, _⟩ := h; ⟨a, cap, hv⟩
theorem ArrK.len {α : Type} {n : Nat} {R : Rel α} {P : Nat -> Prop} {w : World} {v : Value} {xs : List α} (h : ArrK n R P w v xs) : Len v xs.length := let ⟨a, cap, hv, _⟩ := h; ⟨a, cap, hv⟩
theorem Arr.le {α : Type} {R : Rel α} {P : Nat -> Prop} {w : World} {v : Value} {xs : List α} (h : Arr R P w v xs) : (xs.length : Int) ≤ 9223372036854775807 := by
 obtain ⟨a, cap, hv, h1, h2, _⟩ := h
 simp only [maxLen] at h2
 omega
theorem ArrK.le {α : Type} {n : Nat} {R : Rel α} {P : Nat -> Prop} {w : World} {v : Value} {xs : List α} (h : ArrK n R P w v xs) : (xs.length : Int) ≤ 9223372036854775807 := by
 obtain ⟨a, cap, hv, h1, h2, _⟩ := h
 simp only [maxLen] at h2
 omega

def Own {α : Type} (B : Nat) (e : TypeId) (R : Rel α) : Rel (List α) := fun P w v xs =>
 ∃ us : List Value, us.length = xs.length /\ w.ownsRow B e 1 v xs.length us /\
  ∀ k (h : k < us.length) (h' : k < xs.length), us[k].oneCell' = true /\ R (fun b => P b /\ v.ownBlock ≠ some b) w us[k] xs[k]

def OwnK {α : Type} (B : Nat) (e : TypeId) (n : Nat) (R : Rel α) : Rel (List α) := fun P w v xs =>
 ∃ us : List (List Value), us.length = xs.length /\ (∀ u ∈ us, u.length = n /\ ∀ c ∈ u, c.oneCell' = true) /\ 0 < n /\ w.ownsRow B e n v xs.length us.flatten /\
  ∀ k (h : k < us.length) (h' : k < xs.length), R (fun b => P b /\ v.ownBlock ≠ some b) w (.agg us[k].toArray) xs[k]

section
variable {α : Type} {R : Rel α} {P : Nat -> Prop} {w : World} {v : Value} {xs : List α} {B : Nat} {e : TypeId} {n : Nat}

theorem Own.nil : Own B e R P w (.slice none 0 0) ([] : List α) := ⟨[], rfl, World.ownsRow_nil w B e 1, fun k h => absurd h (Nat.not_lt_zero k)⟩
theorem OwnK.nil (hn : 0 < n) : OwnK B e n R P w (.slice none 0 0) ([] : List α) := ⟨[], rfl, fun u hu => by simp at hu, hn, World.ownsRow_nil w B e n, fun k h => absurd h (Nat.not_lt_zero k)⟩

theorem Z4 {size m : Nat} {cs : List Value} (h : w.ownsRow B e size v m cs) : ∃ a cap, v = .slice a m cap /\ m ≤ cap /\ cap ≤ maxLen /\
  ∀ j u, cs[j]? = some u -> ∃ g, a = some ⟨g, 0, none⟩ /\ v.ownBlock = some g /\ B ≤ g /\ w.cell? ⟨g, j, none⟩ = some u := by
 have hlt := h.lt
 rcases h.2 with ⟨rfl, rfl⟩ | ⟨g, cap, cur, rfl, hb, hg, hnc, hcm, hcs, ht⟩
 ·refine ⟨none, 0, rfl, Nat.le_refl _, by simp [maxLen], fun j u hu => ?_⟩
  have : cs = [] := List.eq_nil_of_length_eq_zero (by simpa using h.1)
  subst this; simp at hu
 ·refine ⟨some ⟨g, 0, none⟩, cap, rfl, hnc, hcm, fun j u hu => ⟨g, rfl, rfl, hb, ?_⟩⟩
  have := h.cells (g := g) rfl j u hu
  rwa [Addr.add_lit, Nat.zero_add] at this

theorem Own.arr [Good R] (h : Own B e R P w v xs) : Arr R (fun k => P k \/ B ≤ k) w v xs := by
 obtain ⟨us, hl, ho, he⟩ := h
 obtain ⟨a, cap, hv, h1, h2, h3⟩ := Z4 ho
 refine ⟨a, cap, hv, h1, h2, fun k hk => ?_⟩
 have hk' : k < us.length := by omega
 obtain ⟨g, ha, _, hB, hc⟩ := h3 k us[k] (List.getElem?_eq_getElem hk')
 obtain ⟨r1, r2⟩ := he k hk' hk
 exact ⟨us[k], g, 0, Good.weak r2 (fun b hb => .inl hb.1), r1, ha, .inr hB, by rw [Nat.zero_add]; exact hc⟩
theorem Own.len (h : Own B e R P w v xs) : Len v xs.length := by
 obtain ⟨us, hl, ho, he⟩ := h
 obtain ⟨a, cap, hv, _⟩ := Z4 ho
 exact ⟨a, cap, hv⟩
theorem Own.le (h : Own B e R P w v xs) : (xs.length : Int) ≤ 9223372036854775807 := by
 obtain ⟨us, hl, ho, he⟩ := h
 obtain ⟨a, cap, hv, h1, h2, _⟩ := Z4 ho
 simp only [maxLen] at h2; omega

theorem ZAe {us : List (List Value)} {n : Nat} (h : ∀ u ∈ us, u.length = n) : ∀ {k j : Nat} (hk : k < us.length) {c : Value}, us[k][j]? = some c -> us.flatten[k * n + j]? = some c := by
 induction us with
 | nil => intro k j hk; exact absurd hk (Nat.not_lt_zero k)
 | cons u us ih =>
  intro k j hk c hc
  have hu : u.length = n := h u (by simp)
  cases k with
  | zero =>
   simp only [List.getElem_cons_zero] at hc
   have hj : j < u.length := (List.getElem?_eq_some_iff.1 hc).1
   rw [List.flatten_cons, Nat.zero_mul, Nat.zero_add, List.getElem?_append_left hj]
   exact hc
  | succ k =>
   have hk' : k < us.length := by simpa using hk
   have hc' : us[k][j]? = some c := by simpa using hc
   have := ih (fun x hx => h x (by simp [hx])) hk' hc'
   rw [List.flatten_cons, List.getElem?_append_right (by rw [hu, Nat.succ_mul]; omega), hu, Nat.succ_mul]
   have e : k * n + n + j - n = k * n + j := by omega
   rw [e]; exact this

theorem OwnK.arr [Good R] (h : OwnK B e n R P w v xs) : ArrK n R (fun k => P k \/ B ≤ k) w v xs := by
 obtain ⟨us, hl, hu, hn, ho, he⟩ := h
 obtain ⟨a, cap, hv, h1, h2, h3⟩ := Z4 ho
 refine ⟨a, cap, hv, h1, h2, hn, fun k hk => ?_⟩
 have hk' : k < us.length := by omega
 have hmem := hu us[k] (List.getElem_mem hk')
 have hlen : ∀ u ∈ us, u.length = n := fun u h => (hu u h).1
 have hc0 : 0 < us[k].length := by rw [hmem.1]; exact hn
 obtain ⟨g, ha, _, hB, _⟩ := h3 (k * n + 0) us[k][0] (ZAe hlen hk' (List.getElem?_eq_getElem hc0))
 refine ⟨us[k], g, 0, Good.weak (he k hk' hk) (fun b hb => .inl hb.1), hmem.1, hmem.2, ha, .inr hB, fun j c hc => ?_⟩
 obtain ⟨g', ha', _, _, hc'⟩ := h3 (k * n + j) c (ZAe hlen hk' hc)
 rw [ha] at ha'
 cases ha'
 rw [Nat.zero_add]; exact hc'
theorem OwnK.len (h : OwnK B e n R P w v xs) : Len v xs.length := by
 obtain ⟨us, hl, hu, hn, ho, he⟩ := h
 obtain ⟨a, cap, hv, _⟩ := Z4 ho
 exact ⟨a, cap, hv⟩
theorem OwnK.le (h : OwnK B e n R P w v xs) : (xs.length : Int) ≤ 9223372036854775807 := by
 obtain ⟨us, hl, hu, hn, ho, he⟩ := h
 obtain ⟨a, cap, hv, h1, h2, _⟩ := Z4 ho
 simp only [maxLen] at h2; omega

theorem Own.ext [Good R] (h : Own B e R P w v xs) {w' : World} (x : Ext w w') : Own B e R P w' v xs := by
 obtain ⟨us, hl, ho, he⟩ := h
 refine ⟨us, hl, ?_, fun k h1 h2 => ⟨(he k h1 h2).1, Good.ext (he k h1 h2).2 x⟩⟩
 exact ho.kept (row := none) ⟨x.os, x.tape, x.output, x.size, fun k hk _ => x.block k hk⟩ (by cases hv : v.ownBlock <;> simp)
theorem OwnK.ext [Good R] (h : OwnK B e n R P w v xs) {w' : World} (x : Ext w w') : OwnK B e n R P w' v xs := by
 obtain ⟨us, hl, hu, hn, ho, he⟩ := h
 refine ⟨us, hl, hu, hn, ?_, fun k h1 h2 => Good.ext (he k h1 h2) x⟩
 exact ho.kept (row := none) ⟨x.os, x.tape, x.output, x.size, fun k hk _ => x.block k hk⟩ (by cases hv : v.ownBlock <;> simp)
end

theorem ZJb {α : Type} {R : Rel α} [Good R] {P : Nat -> Prop} {w : World} {v : Value} {xs : List α} (h : Arr R P w v xs) : Arr R (fun k => k < w.heap.size) w v xs := Good.weak (Good.bound (R := Arr R) h) fun _ hb => hb.2
abbrev noB : Nat -> Prop := fun _ => False
section
variable {α : Type} {R : Rel α} {P : Nat -> Prop} {w w' : World} {v v' u : Value} {xs : List α} {B : Nat} {e : TypeId} {n : Nat} {row : Option Nat}
theorem Own.lt (h : Own B e R P w v xs) : ∀ k, v.ownBlock = some k -> B ≤ k /\ k < w.heap.size := let ⟨_, _, ho, _⟩ := h; ho.lt
theorem OwnK.lt (h : OwnK B e n R P w v xs) : ∀ k, v.ownBlock = some k -> B ≤ k /\ k < w.heap.size := let ⟨_, _, _, _, ho, _⟩ := h; ho.lt
def Sep (v u : Value) : Prop := v.ownBlock = none \/ v.ownBlock ≠ u.ownBlock
theorem Sep.symm (h : Sep v u) : Sep u v := by
 unfold Sep at *
 cases hu : u.ownBlock with
 | none => exact .inl rfl
 | some k => exact .inr (fun hc => by rcases h with h | h <;> simp_all)
theorem Own.kept [Good R] (h : Own B e R P w v xs) (hg : w.grownBy w' row) (hne : v.ownBlock = none \/ v.ownBlock ≠ row) (hP : ∀ k, row = some k -> ¬ P k) : Own B e R P w' v xs := by
 obtain ⟨us, hl, ho, he⟩ := h
 exact ⟨us, hl, ho.kept hg hne, fun k h1 h2 => ⟨(he k h1 h2).1, Good.grown (he k h1 h2).2 hg (fun b hb hc => hP b hb hc.1)⟩⟩
theorem OwnK.kept [Good R] (h : OwnK B e n R P w v xs) (hg : w.grownBy w' row) (hne : v.ownBlock = none \/ v.ownBlock ≠ row) (hP : ∀ k, row = some k -> ¬ P k) : OwnK B e n R P w' v xs := by
 obtain ⟨us, hl, hu, hn, ho, he⟩ := h
 exact ⟨us, hl, hu, hn, ho.kept hg hne, fun k h1 h2 => Good.grown (he k h1 h2) hg (fun b hb hc => hP b hb hc.1)⟩
def ZOM : Value -> Nat
 | .slice _ n _ => n
 | _ => 0
theorem Len.sl {v : Value} {n : Nat} (h : Len v n) : ZOM v = n := by obtain ⟨a, c, rfl⟩ := h; rfl
theorem ZCs {u' : Value} {nb : Nat} (h : Sep v u) (hlt : ∀ k, v.ownBlock = some k -> k < w.heap.size) (hat : u'.ownBlock = u.ownBlock \/ u'.ownBlock = some nb) (hnb : w.heap.size ≤ nb) : Sep v u' := by
 unfold Sep at *
 rcases hat with h' | h'
 ·rw [h']; exact h
 ·cases hv : v.ownBlock with
  | none => exact .inl rfl
  | some k => exact .inr (fun hc => by rw [h'] at hc; cases hc; exact absurd (hlt _ hv) (Nat.not_lt_of_le hnb))
end

theorem ZC1 {a b : Bool} (h : a = b) : Ending.returned (.bool a) = .returned (.bool b) := by rw [h]
theorem ZFa {k : IntKind} {a b : Bool} {c d : Int} (h : a = b) (h' : c = d) : Ending.returned (.tuple #[.bool a, .int k c]) = .returned (.tuple #[.bool b, .int k d]) := by rw [h, h']
theorem ZBf {k : IntKind} {a b : Int} (h : a = b) : Ending.returned (.int k a) = .returned (.int k b) := by rw [h]

structure ElT (P : Program) (t e : TypeId) (n : Nat) (z : Value) (bytes : Nat) (agg : Bool) : Prop where
 und : P.underlying t = some (.slice e)
 info : (P.info? e).map (fun i => (i.zero, i.size, i.bytes)) = some (some z, n, bytes)
 agg : ∀ w, (isAgg e).run P w = .ok agg w
 zs : z.cells.size = n

section
variable {P : Program} {ops : Array Oper} {rest : List Oper} {o : Oper} {a : Act} {Q : Exit -> Act -> World -> Prop} {w : World}

theorem Z6 (hg : o.guard = none) {v : Value} {w' : World} (h : (execOp a.eval o).run P w = .ok (.value v) w') (hk : wpList P ops Q rest (a.put o.dst v) w') : wpList P ops Q (o :: rest) a w :=
 wpList_plain hg fun K hK => by unfold Oper.wp; rw [h]; exact hK _ _ hk

theorem ZCV (hw : Region.wanted o (yielded ops a.tmps) = true) {v : Value} {w' : World} (h : (execOp a.eval o).run P w = .ok (.value v) w') (hk : wpList P ops Q rest (a.put o.dst v) w') : wpList P ops Q (o :: rest) a w :=
 wpList_step fun K hK => by rw [if_pos hw]; unfold Oper.wp; rw [h]; exact hK _ _ hk

theorem ZGI {t e : TypeId} {ty : TypeId} {v : Value} {n : Nat} (hu : P.underlying t = some (.slice e)) (hv : Len v n) : (Builtin.len_ #[t] ty #[v]).run P w = .ok (.int .i64 n) w := by
 obtain ⟨x, cap, rfl⟩ := hv
 simp [Builtin.len_, goInt, run_underlying hu]

theorem ZAL {x : Operand} {t e : TypeId} {dst : Option Tmp} {ty1 : TypeId} {ps1 : String} {af1 : Array Edge} {g1 : Option (Nat × Bool)}
  {v : Value} (hu : P.underlying t = some (.slice e)) (hw : Region.wanted ⟨dst, .call { callee := .builtin .len, args := #[x], argTypes := #[t] }, ty1, ps1, af1, g1⟩ (yielded ops a.tmps) = true) (hx : a.eval x = v) {n : Nat} (hv : Len v n) (hk : wpList P ops Q rest (a.put dst (.int .i64 n)) w) :
  wpList P ops Q (⟨dst, .call { callee := .builtin .len, args := #[x], argTypes := #[t] }, ty1, ps1, af1, g1⟩ :: rest) a w := by
 refine ZCV hw (v := .int .i64 n) (w' := w) ?_ hk
 subst hx
 unfold execOp
 simp only [resolve, invoke, builtin, Sem.run_bind, Sem.run_pure, Result.andThen_ok, List.map_toArray, List.map_cons, List.map_nil, ZGI hu hv]

variable {t e : TypeId} {n bytes : Nat} {z : Value} {agg : Bool}

theorem ElT.size (E : ElT P t e n z bytes agg) : (sizeOf e).run P w = .ok n w := by
 obtain ⟨i, hi, hz, hs, hb⟩ := info_parts E.info
 simp [sizeOf, typeInfo, hi, hs]

theorem ZAp (E : ElT P t e n z bytes agg) (b off len cap k : Nat) (kk : IntKind) (h : k < len) :
  (Instr.indexAt t (.slice (some ⟨b, off, none⟩) len cap) (.int kk (k : Int))).run P w = .ok (.pointer (some ⟨b, off + k * n, none⟩)) w := by
 obtain ⟨i, hi, hz, hs, hb⟩ := info_parts E.info
 have h0 : (0 : Int) ≤ k /\ (k : Int) < (len : Nat) := by omega
 simp [Instr.indexAt, asIntOf, run_underlying E.und, sizeOf, typeInfo, hi, hs, h, Addr.add_lit]

theorem ZNp {x i : Operand} {d : Tmp} {dst2 : Option Tmp} {ty1 ty2 : TypeId} {ps1 ps2 : String} {af1 af2 : Array Edge} {g1 g2 : Option (Nat × Bool)} (E : ElT P t e 1 z bytes false)
  (hw : Region.wanted ⟨some d, .indexAddr t x i, ty1, ps1, af1, g1⟩ (yielded ops a.tmps) = true) (hw2 : ∀ p : Addr, Region.wanted ⟨dst2, .load e (.tmp d), ty2, ps2, af2, g2⟩ (yielded ops (a.put (some d) (.pointer (some p))).tmps) = true)
  (hdl : ∀ p : Value, (a.put (some d) p).eval (.tmp d) = p) {α : Type} {R : Rel α} {PB : Nat -> Prop} {v : Value} {xs : List α} {k : Nat} (hx : a.eval x = v) (hi : a.eval i = .int .i64 (k : Int))
  (hv : Arr R PB w v xs) (hk : k < xs.length)
  (h : ∀ (p : Addr) (u : Value), R PB w u xs[k] -> u.oneCell' = true -> wpList P ops Q rest ((a.put (some d) (.pointer (some p))).put dst2 u) w) :
  wpList P ops Q (⟨some d, .indexAddr t x i, ty1, ps1, af1, g1⟩ :: ⟨dst2, .load e (.tmp d), ty2, ps2, af2, g2⟩ :: rest) a w := by
 obtain ⟨ad, cap, rfl, h1, h2, h3⟩ := hv
 obtain ⟨u, b, off, r1, r2, rfl, r4, r5⟩ := h3 k hk
 have hix := ZAp (w := w) E b off xs.length cap k .i64 hk
 rw [Nat.mul_one] at hix
 refine ZCV hw (v := .pointer (some ⟨b, off + k, none⟩)) (w' := w) ?_ ?_
 ·unfold execOp
  simp only [hx, hi, Sem.run_bind, hix, Result.andThen_ok, Sem.run_pure]
 ·refine ZCV (hw2 _) (v := u) (w' := w) ?_ (h _ u r1 r2)
  have he := hdl (.pointer (some ⟨b, off + k, none⟩))
  unfold execOp
  simp only [he, Instr.loadAt, Instr.sureAddr, loadVar, Sem.run_bind, E.agg, Result.andThen_ok, Sem.run_pure, Bool.false_eq_true, if_false, run_load, r5]

theorem ZNq {x i : Operand} {d : Tmp} {dst2 : Option Tmp} {ty1 ty2 : TypeId} {ps1 ps2 : String} {af1 af2 : Array Edge} {g1 g2 : Option (Nat × Bool)} (E : ElT P t e 1 z bytes false)
  (hw : Region.wanted ⟨some d, .indexAddr t x i, ty1, ps1, af1, g1⟩ (yielded ops a.tmps) = true) (hw2 : ∀ p : Addr, Region.wanted ⟨dst2, .load e (.tmp d), ty2, ps2, af2, g2⟩ (yielded ops (a.put (some d) (.pointer (some p))).tmps) = true)
  (hdl : ∀ p : Value, (a.put (some d) p).eval (.tmp d) = p) {α : Type} {R : Rel α} {PB : Nat -> Prop} {v : Value} {xs : List α} {k : Nat} (j : Int) (hj : j = (k : Int)) (hx : a.eval x = v) (hi : a.eval i = .int .i64 j)
  (hv : Arr R PB w v xs) (hk : k < xs.length)
  (h : ∀ (p : Addr) (u : Value), R PB w u xs[k] -> u.oneCell' = true -> wpList P ops Q rest ((a.put (some d) (.pointer (some p))).put dst2 u) w) :
  wpList P ops Q (⟨some d, .indexAddr t x i, ty1, ps1, af1, g1⟩ :: ⟨dst2, .load e (.tmp d), ty2, ps2, af2, g2⟩ :: rest) a w :=
 ZNp E hw hw2 hdl hx (by rw [hi, hj]) hv hk h
theorem ZBZ {x i : Operand} {d : Tmp} {dst2 : Option Tmp} {ty1 ty2 : TypeId} {ps1 ps2 : String} {af1 af2 : Array Edge} {g1 g2 : Option (Nat × Bool)} (E : ElT P t e 1 z bytes false)
  (hw : Region.wanted ⟨some d, .indexAddr t x i, ty1, ps1, af1, g1⟩ (yielded ops a.tmps) = true) (hw2 : ∀ p : Addr, Region.wanted ⟨dst2, .load e (.tmp d), ty2, ps2, af2, g2⟩ (yielded ops (a.put (some d) (.pointer (some p))).tmps) = true)
  (hdl : ∀ p : Value, (a.put (some d) p).eval (.tmp d) = p) {PB : Nat -> Prop} {v : Value} {xs : List Int} {k : Nat} (hx : a.eval x = v) (hi : a.eval i = .int .i64 (k : Int))
  (hv : Arr RI PB w v xs) (hk : k < xs.length)
  (h : ∀ (p : Addr), wpList P ops Q rest ((a.put (some d) (.pointer (some p))).put dst2 (.int .i64 xs[k])) w) :
  wpList P ops Q (⟨some d, .indexAddr t x i, ty1, ps1, af1, g1⟩ :: ⟨dst2, .load e (.tmp d), ty2, ps2, af2, g2⟩ :: rest) a w :=
 ZNp E hw hw2 hdl hx hi hv hk fun p u hu _ => by cases (hu : u = _); exact h p

theorem ZCC {u : Value} (h : u.oneCell' = true) : u.cells = #[u] := by cases u <;> simp_all [Value.oneCell', Value.cells]

theorem ZEz (E : ElT P t e 1 z bytes false) {u : Value} (hu : u.oneCell' = true) :
  (Instr.buildSlice t 1 #[(0, u)]).run P w = .ok (.slice (some ⟨w.heap.size, 0, none⟩) 1 1) (w.alloc (.cells #[u] e)) := by
 obtain ⟨i, hi, hz, hs, hb⟩ := info_parts E.info
 have hzc : z.cells.size = 1 := E.zs
 simp [Instr.buildSlice, run_underlying E.und, sizeOf, typeInfo, hi, hs, zeroValue, hz, newRow, Instr.fill, ZCC hu, hzc]
 congr 2
 apply Array.ext
 ·simp
 ·intro j h1 h2
  have : j = 0 := by simp at h2; omega
  subst this; simp

theorem ZL7 {B : Nat} {α : Type} {R : Rel α} [Good R] {PB : Nat -> Prop} {v v' : Value} {xs ys : List α} {us news : List Value} {w' : World} {nb : Nat} {row : Option Nat}
  (hl : us.length = xs.length) (hn : news.length = ys.length) (ho : w'.ownsRow B e 1 v' (xs.length + ys.length) (us ++ news)) (hg : w.grownBy w' row) (hnb : w.heap.size ≤ nb)
  (hat : v'.ownBlock = v.ownBlock \/ v'.ownBlock = some nb) (hrow : row = v.ownBlock)
  (he : ∀ k (h : k < us.length) (h' : k < xs.length), us[k].oneCell' = true /\ R (fun b => PB b /\ v.ownBlock ≠ some b) w us[k] xs[k])
  (hy : ∀ k (h : k < news.length) (h' : k < ys.length), news[k].oneCell' = true /\ R (fun b => PB b /\ v.ownBlock ≠ some b) w news[k] ys[k]) : Own B e R PB w' v' (xs ++ ys) := by
 have key : ∀ {u : Value} {x : α}, R (fun b => PB b /\ v.ownBlock ≠ some b) w u x -> R (fun b => PB b /\ v'.ownBlock ≠ some b) w' u x := by
  intro u x h
  have h1 := Good.bound h
  have h2 := Good.grown h1 hg (fun k hk hc => by rw [hrow] at hk; exact hc.1.2 hk)
  refine Good.weak h2 (fun b hb => ⟨hb.1.1, fun hc => ?_⟩)
  rcases hat with h' | h'
  ·rw [h'] at hc; exact hb.1.2 hc
  ·rw [h'] at hc; cases hc; exact absurd hb.2 (Nat.not_lt_of_le hnb)
 refine ⟨us ++ news, by simp [hl, hn], by rw [List.length_append]; exact ho, fun k h h' => ?_⟩
 by_cases hk : k < us.length
 ·have hk' : k < xs.length := by omega
  rw [List.getElem_append_left hk, List.getElem_append_left hk']
  exact ⟨(he k hk hk').1, key (he k hk hk').2⟩
 ·have e1 : k - us.length < news.length := by rw [List.length_append] at h; omega
  have e2 : k - xs.length < ys.length := by rw [List.length_append] at h'; omega
  rw [List.getElem_append_right (by omega), List.getElem_append_right (by omega)]
  have e3 : k - us.length = k - xs.length := by rw [hl]
  have := hy (k - xs.length) (by omega) e2
  simp only [e3]
  exact ⟨this.1, key this.2⟩

theorem ZFG {B : Nat} {w' : World} {row : Option Nat} (hB : B ≤ w.heap.size) (hg : w.grownBy w' row) (hr : ∀ k, row = some k -> B ≤ k) : Below B w w' := (Below.refl B w).grown hg hB hr

theorem ZOR {s x : Operand} {d : Tmp} {dst2 : Option Tmp} {ty1 ty2 : TypeId} {ps1 ps2 : String} {af1 af2 : Array Edge} (E : ElT P t e 1 z bytes false)
  (hdl : ∀ p : Value, (a.put (some d) p).eval (.tmp d) = p) (hsd : (a.put (some d) (.slice (some ⟨w.heap.size, 0, none⟩) 1 1)).eval s = a.eval s)
  {B : Nat} {α : Type} {R : Rel α} [Good R] {PB : Nat -> Prop} {v : Value} {xs : List α} (hs : a.eval s = v) {u : Value} (hx : a.eval x = u)
  (hv : Own B e R PB w v xs) (y : α) (hy : R (fun b => PB b /\ v.ownBlock ≠ some b) w u y) (hu : u.oneCell' = true) (hB : B ≤ w.heap.size) (hlen : (xs.length + 1) * bytes ≤ 140737488355328) (hby : 0 < bytes)
  (h : ∀ (p : Value) (v' : Value) (w' : World), Own B e R PB w' v' (xs ++ [y]) -> Below B w w' -> w.grownBy w' v.ownBlock -> (v'.ownBlock = v.ownBlock \/ v'.ownBlock = some (w.heap.size + 1)) ->
   wpList P ops Q rest ((a.put (some d) p).put dst2 v') w') :
  wpList P ops Q (⟨some d, .buildSlice t 1 #[(0, x)], ty1, ps1, af1, none⟩ :: ⟨dst2, .call { callee := .builtin .append, args := #[s, .tmp d], argTypes := #[t, t] }, ty2, ps2, af2, none⟩ :: rest) a w := by
 obtain ⟨us, hl, hown, he⟩ := hv
 obtain ⟨i, hi, hz, hsz, hb⟩ := info_parts E.info
 refine Z6 rfl (v := .slice (some ⟨w.heap.size, 0, none⟩) 1 1) (w' := w.alloc (.cells #[u] e)) ?_ ?_
 ·unfold execOp
  simp only [hx, List.map_toArray, List.map_cons, List.map_nil, Sem.run_bind, ZEz E hu, Result.andThen_ok, Sem.run_pure]
 ·have h2 : xs.length + 1 ≤ maxLen := by
   have : (xs.length + 1) * 1 ≤ (xs.length + 1) * bytes := Nat.mul_le_mul_left _ hby
   simp only [maxLen]; omega
  obtain ⟨v', w', hr, r1, r2, r3, r4⟩ := run_append_own_at (P := P) (w.alloc (.cells #[u] e)) B t ty2 e i z 1 bytes E.und hi hz hsz hb E.zs Nat.one_pos v xs.length us (hown.alloc _) ⟨w.heap.size, 0, none⟩ 1 1 [u] rfl
   (cell_one_new w u e) (by simpa using hu) h2 hlen (by simp; omega)
  have hgr : w.grownBy w' v.ownBlock := (World.grownBy_alloc w _ _).trans r2
  rw [World.size_alloc] at r4
  refine Z6 rfl (v := v') (w' := w') ?_ (h _ v' w' ?_ (ZFG hB hgr (fun k hk => (hown.lt k hk).1)) hgr r4)
  ·have e1 := hdl (.slice (some ⟨w.heap.size, 0, none⟩) 1 1)
   unfold execOp
   simp only [resolve, invoke, builtin, List.map_toArray, List.map_cons, List.map_nil, e1, hsd, hs, Sem.run_bind, Sem.run_pure, Result.andThen_ok, hr]
  ·exact ZL7 (ys := [y]) hl rfl r1 hgr (by omega) r4 rfl he (fun k h1 h2 => by
    have : k = 0 := by simp at h1; omega
    subst this; exact ⟨hu, hy⟩)

theorem ZD0 {s x : Operand} {d : Tmp} {dst2 : Option Tmp} {ty1 ty2 : TypeId} {ps1 ps2 : String} {af1 af2 : Array Edge} (E : ElT P t e 1 z 8 false)
  (hdl : ∀ p : Value, (a.put (some d) p).eval (.tmp d) = p) (hsd : (a.put (some d) (.slice (some ⟨w.heap.size, 0, none⟩) 1 1)).eval s = a.eval s)
  {B : Nat} {v : Value} {xs : List Int} (hs : a.eval s = v) (y : Int) (hx : a.eval x = .int .i64 y)
  (hv : Own B e RI noB w v xs) (hB : B ≤ w.heap.size) (hlen : xs.length ≤ 1000000000)
  (h : ∀ (p : Value) (v' : Value) (w' : World), Own B e RI noB w' v' (xs ++ [y]) -> Below B w w' -> w.grownBy w' v.ownBlock -> (v'.ownBlock = v.ownBlock \/ v'.ownBlock = some (w.heap.size + 1)) ->
   wpList P ops Q rest ((a.put (some d) p).put dst2 v') w') :
  wpList P ops Q (⟨some d, .buildSlice t 1 #[(0, x)], ty1, ps1, af1, none⟩ :: ⟨dst2, .call { callee := .builtin .append, args := #[s, .tmp d], argTypes := #[t, t] }, ty2, ps2, af2, none⟩ :: rest) a w :=
 ZOR E hdl hsd hs hx hv y rfl rfl hB (by omega) (by omega) h

theorem ZCm {B m : Nat} (E : ElT P t e n z bytes agg) {ty : TypeId} {v : Value} {cs : List Value} (hown : w.ownsRow B e n v m cs) (cap : Nat) :
  (Builtin.append_ #[t, t] ty #[v, .slice none 0 cap]).run P w = .ok v w := by
 obtain ⟨i, hi, hz, hsz, hb⟩ := info_parts E.info
 rcases hown.2 with ⟨rfl, rfl⟩ | ⟨g, c, cur, rfl, _, _, hnc, _⟩
 ·simp [Builtin.append_, run_underlying E.und, sizeOf, typeInfo, hi, Builtin.lenOf, Builtin.firstCells]
 ·simp [Builtin.append_, run_underlying E.und, sizeOf, typeInfo, hi, Builtin.lenOf, Builtin.firstCells, hnc, storeCells]

def Bnd (x : Option Value) (dflt k : Nat) : Prop := (x = none /\ k = dflt) \/ ∃ kk, x = some (.int kk (k : Int))

theorem ZBn (E : ElT P t e n z bytes agg) {ad : Option Addr} {len cap l h : Nat} {lo hi : Option Value} (hlo : Bnd lo 0 l) (hhi : Bnd hi len h) (h1 : l ≤ h) (h2 : h ≤ cap) :
  (Instr.sliceAt t (.slice ad len cap) lo hi none).run P w = .ok (.slice (if cap = l then ad else ad.map (·.add (l * n))) (h - l) (cap - l)) w := by
 obtain ⟨i, hi', hz, hs, hb⟩ := info_parts E.info
 have a1 : (0 : Int) ≤ l /\ (l : Int) ≤ (h : Nat) := by omega
 have a2 : (0 : Int) ≤ h /\ (h : Int) ≤ (cap : Nat) := by omega
 rcases hlo with ⟨rfl, rfl⟩ | ⟨k1, rfl⟩ <;> rcases hhi with ⟨rfl, rfl⟩ | ⟨k2, rfl⟩ <;>
  simp [Instr.sliceAt, Instr.slice, run_underlying E.und, Instr.sliceBounds, Instr.sliceBound, asIntOf, sizeOf, typeInfo, hi', hs, h1, h2]

theorem ZJy {α : Type} {R : Rel α} {PB : Nat -> Prop} {ad : Option Addr} {cap l h : Nat} {xs : List α} (hv : Arr R PB w (.slice ad xs.length cap) xs) (h1 : l ≤ h) (h2 : h ≤ xs.length) :
  Arr R PB w (.slice (if cap = l then ad else ad.map (·.add (l * 1))) (h - l) (cap - l)) ((xs.drop l).take (h - l)) := by
 obtain ⟨ad', cap', hv, c1, c2, c3⟩ := hv
 cases hv
 have hlen : ((xs.drop l).take (h - l)).length = h - l := by simp; omega
 refine ⟨_, _, by rw [hlen], by rw [hlen]; omega, by omega, fun k hk => ?_⟩
 rw [hlen] at hk
 obtain ⟨u, b, off, r1, r2, rfl, r4, r5⟩ := c3 (l + k) (by omega)
 have hne : ¬ cap = l := by omega
 refine ⟨u, b, off + l, by simpa using r1, r2, ?_, r4, by rw [Nat.add_assoc]; exact r5⟩
 rw [if_neg hne, Nat.mul_one]
 simp [Addr.add_lit]

variable {C : World -> Prop} {QA : Act -> Prop}

theorem ZMl {v : Value} (hw : Region.wanted o (yielded ops a.tmps) = true) (h : ∀ w, C w -> (execOp a.eval o).run P w = .ok (.value v) w) (hk : wpQuiet P ops C QA rest (a.put o.dst v)) : wpQuiet P ops C QA (o :: rest) a :=
 wpQuiet_step fun K hK => by
  rw [if_pos hw]
  exact ⟨v, fun w hw => by unfold Oper.quietAt; rw [h w hw]; exact ⟨rfl, rfl⟩, hK _ hk⟩
theorem ZIU {f : FuncId} {args : Array Operand} {ats : Array TypeId} {dst : Option Tmp} {ty1 : TypeId} {ps1 : String} {af1 : Array Edge} {g1 : Option (Nat × Bool)}
  (hf : ∀ (args : Array Value) (w : World), (callFunc f args).run P w = .ok (.enter f args) w)
  (hw : Region.wanted ⟨dst, .call { callee := .value (.func f), args := args, argTypes := ats }, ty1, ps1, af1, g1⟩ (yielded ops a.tmps) = true) {vs : Array Value} (hvs : args.toList.map a.eval = vs.toList) {v : Value}
  (h : ∀ w, C w -> Calls P f vs w fun e w' => e = .returned v /\ C w') (hk : wpQuiet P ops C QA rest (a.put dst v)) :
  wpQuiet P ops C QA (⟨dst, .call { callee := .value (.func f), args := args, argTypes := ats }, ty1, ps1, af1, g1⟩ :: rest) a :=
 wpQuiet_step fun K hK => by
  rw [if_pos hw]
  refine ⟨v, fun w hw => ?_, hK _ hk⟩
  unfold Oper.quietAt
  have : (execOp a.eval ⟨dst, .call { callee := .value (.func f), args := args, argTypes := ats }, ty1, ps1, af1, g1⟩).run P w = .ok (.enter f vs) w := by
   have hvs' : args.map a.eval = vs := by
    apply Array.ext'
    rw [Array.toList_map]; exact hvs
   unfold execOp
   simp only [resolve]
   rw [hvs']
   simp [Act.eval, Deferred.ofValue, invoke, hf]
  rw [this]
  exact ⟨rfl, h w hw⟩
theorem q_ix {x i : Operand} {d : Tmp} {dst2 : Option Tmp} {ty1 ty2 : TypeId} {ps1 ps2 : String} {af1 af2 : Array Edge} {g1 g2 : Option (Nat × Bool)} (E : ElT P t e 1 z bytes false)
  (hw : Region.wanted ⟨some d, .indexAddr t x i, ty1, ps1, af1, g1⟩ (yielded ops a.tmps) = true)
  (hdl : ∀ p : Value, (a.put (some d) p).eval (.tmp d) = p) {α : Type} {R : Rel α} [Good R] {PB : Nat -> Prop} {v : Value} {xs : List α} {k : Nat} (hx : a.eval x = v) (hi : a.eval i = .int .i64 (k : Int)) {w0 : World}
  (hv : Arr R PB w0 v xs) (hk : k < xs.length) (hC : ∀ w, C w -> Ext w0 w) (hw2 : ∀ p : Addr, Region.wanted ⟨dst2, .load e (.tmp d), ty2, ps2, af2, g2⟩ (yielded ops (a.put (some d) (.pointer (some p))).tmps) = true)
  (h : ∀ (p : Addr) (u : Value), R PB w0 u xs[k] -> u.oneCell' = true -> wpQuiet P ops C QA rest ((a.put (some d) (.pointer (some p))).put dst2 u)) :
  wpQuiet P ops C QA (⟨some d, .indexAddr t x i, ty1, ps1, af1, g1⟩ :: ⟨dst2, .load e (.tmp d), ty2, ps2, af2, g2⟩ :: rest) a := by
 obtain ⟨ad, cap, rfl, h1, h2, h3⟩ := hv
 obtain ⟨u, b, off, r1, r2, rfl, r4, r5⟩ := h3 k hk
 refine ZMl hw (v := .pointer (some ⟨b, off + k, none⟩)) (fun w _ => ?_) ?_
 ·have hix := ZAp (w := w) E b off xs.length cap k .i64 hk
  rw [Nat.mul_one] at hix
  unfold execOp
  simp only [hx, hi, Sem.run_bind, hix, Result.andThen_ok, Sem.run_pure]
 ·refine ZMl (hw2 _) (v := u) (fun w hw' => ?_) (h _ u r1 r2)
  have he := hdl (.pointer (some ⟨b, off + k, none⟩))
  have r5' := (hC w hw').cell r5
  unfold execOp
  simp only [he, Instr.loadAt, Instr.sureAddr, loadVar, Sem.run_bind, E.agg, Result.andThen_ok, Sem.run_pure, Bool.false_eq_true, if_false, run_load, r5']
theorem ZKs {x i : Operand} {d : Tmp} {dst2 : Option Tmp} {ty1 ty2 : TypeId} {ps1 ps2 : String} {af1 af2 : Array Edge} {g1 g2 : Option (Nat × Bool)} (E : ElT P t e 1 z bytes false)
  (hw : Region.wanted ⟨some d, .indexAddr t x i, ty1, ps1, af1, g1⟩ (yielded ops a.tmps) = true)
  (hdl : ∀ p : Value, (a.put (some d) p).eval (.tmp d) = p) {PB : Nat -> Prop} {v : Value} {xs : List Int} {k : Nat} (hx : a.eval x = v) (hi : a.eval i = .int .i64 (k : Int)) {w0 : World}
  (hv : Arr RI PB w0 v xs) (hk : k < xs.length) (hC : ∀ w, C w -> Ext w0 w) (hw2 : ∀ p : Addr, Region.wanted ⟨dst2, .load e (.tmp d), ty2, ps2, af2, g2⟩ (yielded ops (a.put (some d) (.pointer (some p))).tmps) = true)
  (h : ∀ (p : Addr), wpQuiet P ops C QA rest ((a.put (some d) (.pointer (some p))).put dst2 (.int .i64 xs[k]))) :
  wpQuiet P ops C QA (⟨some d, .indexAddr t x i, ty1, ps1, af1, g1⟩ :: ⟨dst2, .load e (.tmp d), ty2, ps2, af2, g2⟩ :: rest) a :=
 q_ix E hw hdl hx hi hv hk hC hw2 fun p u hu _ => by cases (hu : u = _); exact h p
end

theorem ZAE {w0 : World} : ∀ w, (∃ n, w = w0.drewN n) -> Ext w0 w := fun _ ⟨n, hn⟩ => hn ▸ ZAC w0 n
theorem ZFP {P : Program} {f : FuncId} {vs : Array Value} {v : Value} {w0 w : World} (hw : ∃ n, w = w0.drewN n)
  (h : Calls P f vs w fun e w' => e = .returned v /\ ∃ n, w' = w.drewN n) : Calls P f vs w fun e w' => e = .returned v /\ ∃ n, w' = w0.drewN n :=
 h.mono fun e w' ⟨he, n, hn⟩ => let ⟨m, hm⟩ := hw; ⟨he, m + n, by rw [hn, hm, World.drewN_drewN]⟩
theorem ZFQ {P : Program} {f : FuncId} {vs : Array Value} {v : Value} {w0 w : World} (hw : ∃ n, w = w0.drewN n)
  (h : Calls P f vs w fun e w' => e = .returned v /\ w' = w) : Calls P f vs w fun e w' => e = .returned v /\ ∃ n, w' = w0.drewN n :=
 h.mono fun e w' ⟨he, hn⟩ => ⟨he, by rw [hn]; exact hw⟩

end
end Go.Proofs.YtjmignmnlpamjaaGreat
