/- Part 35: walks by contracts, and plain laws. -/
import Derived.Test.YtmcllakdbgnfiaaGreatDoorVg32
import Derived.Test.YtmcllakdbgnfiaaGreatDoorVg34
set_option linter.unusedVariables false
set_option linter.unusedSimpArgs false
set_option linter.unusedSectionVars false
set_option maxRecDepth 100000
set_option maxHeartbeats 4000000
namespace Go.Proofs.YtmcllakdbgnfiaaGreatDoor
section
open Go.RowKit
section
variable {P : Program} {l : Nat} {Q : Z1} {fr : List Dat} {hp : List HObj} {c : Code}
theorem WR.nilRowK {α : Type} (e : TypeId) (n : Nat) (hn : 0 < n) (R : Rel α) [Good R] (h : WR P l Q c fr (ZS (.slice none 0 0) e n R ([] : List α) :: hp)) : WR P l Q c fr hp := WR.of fun _ _ _ _ _ hh hf =>
 h.on (hh.push (Ext.refl _) (by simp [ZS, Value.ownBlock]) (OwnK.nil hn)) (hf.mono fun _ _ hd => Za (Ext.refl _) (by simp [ZS, Value.ownBlock]) hd)
theorem WR.keepK {α : Type} {R : Rel α} {_gR : Good R} {v : Value} {e : TypeId} {n t : Nat} {xs : List α} (ht : fr[t]? = some (dX v)) (h : WR P l Q c (fr.set t (dS (ArrK n R) xs)) hp) : WR P l Q c fr (ZS v e n R xs :: hp) := WR.of fun P0 B w0 w a hh hf => by
 have hA : ArrK n R (Imm P0 B hp) w v xs := ZCJ hh
 refine h.on hh.drop ⟨hf.defers, by rw [hf.size, List.length_set], fun t' d' hd' => ?_⟩
 by_cases htt : t = t'
 ·subst htt
  rw [List.getElem?_set] at hd'
  simp only [if_true] at hd'
  split at hd'
  ·cases hd'
   have h1 : a.tmps.getD t undef = v := hf.rd t _ ht
   rw [h1]
   exact hA
  ·cases hd'
 ·rw [List.getElem?_set_ne htt] at hd'
  exact d'.weak (hf.rd t' d' hd') Imm.sub
end
theorem WK.keepS {K : Act -> World -> Prop} {P0 : Nat -> Prop} {B : Nat} {w0 : World} {dfs : List Deferred} {fr : List Dat} {hp : List HObj} {b k : Nat} {T eT : TypeId} {ds : List Dat} {α : Type} {R : Rel α} {_gR : Good R} {v : Value} {xs : List α} (hk : ds[k]? = some (dX v)) (h : WK K P0 B w0 dfs fr (Zm b T (ds.set k (dS (Arr R) xs)) :: hp)) : WK K P0 B w0 dfs fr (Zm b T ds :: ZU v eT R xs :: hp) := WK.of fun a w ha hh hf => by
 obtain ⟨hh1, hI1⟩ := hh.perm (List.Perm.swap _ _ _)
 have hA : Arr R (Imm P0 B (Zm b T ds :: hp)) w v xs := ZBW hh1
 have hh2 := hh1.drop
 have hgr : w.grownBy w (Zm b T ds).blk := ⟨rfl, rfl, rfl, Nat.le_refl _, fun _ _ _ => rfl⟩
 obtain ⟨cs, c1, c2, c3, c4⟩ := hh2.ok (Zm b T ds) (by simp)
 have hkl := (List.getElem?_eq_some_iff.1 hk).1
 have hkc : k < cs.length := by omega
 have hv : cs[k] = v := c4 k _ _ (List.getElem?_eq_getElem hkc) hk
 have hok : (Zm b T (ds.set k (dS (Arr R) xs))).ok (fun j => Imm P0 B (Zm b T ds :: hp) j /\ j < w.heap.size) w := by
  refine ⟨cs, c1, by simp [c2], c3, fun j c e hc he => ?_⟩
  rw [List.getElem?_set] at he
  by_cases hjk : k = j
  ·rw [if_pos hjk, if_pos hkl] at he
   cases he
   subst hjk
   rw [List.getElem?_eq_getElem hkc] at hc
   cases hc
   rw [hv]
   exact (dS (Arr R) xs).bound hA
  ·rw [if_neg hjk] at he
   exact e.bound (c4 j c e hc he)
 refine h.out a w ha (hh2.write hgr (.inl rfl) hok) (hf.mono fun d u hd => ?_)
 exact ZI (o := Zm b T ds) (o' := Zm b T (ds.set k (dS (Arr R) xs))) hgr (.inl rfl) (d.weak hd fun j hj => Imm.sub j ((hI1 j).1 hj))
theorem perm_bar {k c a1 a2 a3 a4 a5 a6 : HObj} {r : List HObj} : (k :: c :: a1 :: a2 :: a3 :: a4 :: a5 :: a6 :: r).Perm ([a1, a2, a3, a4, a5, a6, c] ++ ([k] ++ r)) := by
 have h : (([k, c] ++ [a1, a2, a3, a4, a5, a6]) ++ r).Perm (([a1, a2, a3, a4, a5, a6] ++ [k, c]) ++ r) := List.Perm.append_right _ List.perm_append_comm
 have h2 : (([a1, a2, a3, a4, a5, a6] ++ [k, c]) ++ r).Perm (([a1, a2, a3, a4, a5, a6] ++ [c, k]) ++ r) := List.Perm.append_right _ (List.Perm.append_left _ (List.Perm.swap _ _ _))
 simpa using h.trans h2
theorem perm_bar2 {m k c a1 a2 a3 a4 a5 a6 : HObj} {r : List HObj} : (m :: ([a1, a2, a3, a4, a5, a6, c] ++ ([k] ++ r))).Perm (k :: c :: ([a1, a2, a3, a4, a5, a6] ++ (m :: r))) := by
 have h1 : (m :: ([a1, a2, a3, a4, a5, a6, c] ++ ([k] ++ r))).Perm (m :: k :: c :: a1 :: a2 :: a3 :: a4 :: a5 :: a6 :: r) := List.Perm.cons m perm_bar.symm
 have h2 : (([m] ++ [k, c, a1, a2, a3, a4, a5, a6]) ++ r).Perm (([k, c, a1, a2, a3, a4, a5, a6] ++ [m]) ++ r) := List.Perm.append_right _ List.perm_append_comm
 refine h1.trans ?_
 simpa using h2
theorem perm_42 {a b c d x y : HObj} {r : List HObj} : (a :: b :: c :: d :: x :: y :: r).Perm (x :: y :: a :: b :: c :: d :: r) := by
 have : (([a, b, c, d] ++ [x, y]) ++ r).Perm (([x, y] ++ [a, b, c, d]) ++ r) := List.Perm.append_right _ List.perm_append_comm
 simpa using this
theorem perm_24 {a b c d x y : HObj} {r : List HObj} : (x :: y :: a :: b :: c :: d :: r).Perm (b :: a :: c :: d :: x :: y :: r) := perm_42.symm.trans (List.Perm.swap _ _ _)
theorem perm_start {a b c d e f : HObj} {r : List HObj} : (a :: b :: c :: d :: e :: f :: r).Perm (d :: a :: e :: b :: c :: f :: r) := by
 have h1 : (a :: b :: c :: d :: e :: f :: r).Perm (d :: a :: b :: c :: e :: f :: r) := by
  have : (([a, b, c] ++ [d]) ++ (e :: f :: r)).Perm (([d] ++ [a, b, c]) ++ (e :: f :: r)) := List.Perm.append_right _ List.perm_append_comm
  simpa using this
 have h2 : (b :: c :: e :: f :: r).Perm (e :: b :: c :: f :: r) := by
  have : (([b, c] ++ [e]) ++ (f :: r)).Perm (([e] ++ [b, c]) ++ (f :: r)) := List.Perm.append_right _ List.perm_append_comm
  simpa using this
 exact h1.trans (List.Perm.cons d (List.Perm.cons a h2))

theorem SY.mulE {P : Program} {ops : Array Oper} {hp : List HObj} {fr : List Dat} {dst : Option Tmp} {ty : TypeId} {ps : String} {af : Array Edge} {g : Option (Nat × Bool)} {T T2 : TypeId} {x y : Operand} {p q c : Int} (h : p * q = c) (h0 : -9223372036854775808 <= c /\ c <= 9223372036854775807) (hx : OpD fr x (dI p)) (hy : OpD fr y (dI q)) : SY P ops hp { dst := dst, op := .binOp .mul T x y T2, type := ty, pos := ps, after := af, guard := g } fr (dI c) := h ▸ SY.mul hx hy (h.symm ▸ h0)
def orB (bl : List Nat) (k : Nat) : Nat := (bl.take k).foldl (· ||| ·) 0
theorem orB_succ {bl : List Nat} {k : Nat} (h : k < bl.length) : orB bl (k + 1) = orB bl k ||| bl[k] := by
 unfold orB
 rw [List.take_succ_eq_append_getElem h, List.foldl_append]
 rfl
theorem orB_lt {bl : List Nat} (hb : ∀ b ∈ bl, b < 1048576) : ∀ k, orB bl k < 1048576 := fun k => by
 induction k with
 | zero => show (0 : Nat) < 1048576; decide
 | succ k ih =>
  by_cases h : k < bl.length
  ·rw [orB_succ h]
   exact Nat.or_lt_two_pow (n := 20) ih (hb _ (List.getElem_mem h))
  ·have e : orB bl (k + 1) = orB bl k := by unfold orB; rw [List.take_of_length_le (by omega), List.take_of_length_le (by omega)]
   rw [e]; exact ih
def numF (M : NumM) (x : List Vx) : Int := (lookM M (txS x)).getD 0
def barX (M : NumM) (s : List Vx) (bl : List Nat) (k : Nat) : Vx := ((k : Int), numF M (atB s (orB bl (k + 1))))
def barV (M : NumM) (s : List Vx) (bl : List Nat) : List Vx := (List.range bl.length).map (barX M s bl)
theorem barV_len {M : NumM} {s : List Vx} {bl : List Nat} : (barV M s bl).length = bl.length := by simp [barV]
theorem barV_get {M : NumM} {s : List Vx} {bl : List Nat} {k : Nat} (h : k < (barV M s bl).length) : (barV M s bl)[k] = barX M s bl k := by simp [barV]
abbrev barO (bs bm b9 b8 b11 : Nat) (fv : Value) (F : Cx) (M1 : CarM) (M : NumM) (s : List Vx) : List HObj :=
 [Zm bs 74 [dX fv, dX (.map (some bm))], ZU fv 28 ZF F, hMC bm kvV M1, ZAL ZF M1, ZO b9 71 1 false (dX (.pointer (some ⟨bs, 0, none⟩))), ZO b8 69 1 false (dS (MapR kvS RI) M), ZO b11 28 1 false (dS ZF s)]
theorem atB_sub (s : List Vx) (m : Nat) : ∀ v ∈ atB s m, v ∈ s := fun v hv => by
 unfold atB at hv
 obtain ⟨p, hp, rfl⟩ := List.mem_map.1 hv
 have h := (List.mem_filter.1 hp).1
 obtain ⟨a, i⟩ := p
 have := List.mem_zipIdx h
 rw [this.2.2]
 exact List.getElem_mem _
def facN : Nat -> Nat
 | 0 => 1
 | n + 1 => (n + 1) * facN n
theorem facN_le : ∀ n : Fin 9, facN n.val <= 40320 := by decide
theorem factorial_p (n : Nat) (hn : n <= 8) : Fn Tryz.prog 43 [dI (n : Int)] (dI ((facN n : Nat) : Int)) := by
 (refine ZE Tryz.func43 rfl rfl ?_; simp only [Tryz.ntmps43, List.length_cons, List.length_nil, Nat.reduceAdd, Nat.reduceSub, List.replicate_succ, List.replicate_zero, List.cons_append, List.nil_append])
 (repeat' (first | (apply WL.opN; exact yF; dsimp only [ZB, z0, z1]) | refine WL.nil ?_ | refine ZA fun Kx hK => ?_ | (refine hK _ _ ?_; clear hK) | refine WC.region ?_ | refine WC.block ?_))
 (refine WC.loopU (X := Nat) (fun k => [(3, dI ((facN (k + 1) : Nat) : Int)), (4, dI ((k + 2 : Nat) : Int)), (5, dA), (6, dA), (7, dA), (8, dA), (9, dA), (10, dA), (11, dA), (12, dA)]) (fun k => []) (fun k => n - k) (fun k => k + 1 <= n \/ k = 0) 0 ?start ?frame0 ?objs0 ?round)
 case start => exact .inr rfl
 case frame0 => ((try dsimp only [ZL, z0, z1]); repeat (first | exact LeF.nil | refine ZD (k := ?_)))
 case objs0 => rfl
 case round =>
  rintro k h1
  dsimp only [ZL, z0, z1]
  by_cases hk : k + 2 <= n
  ·have hb := facN_le ⟨k + 1, by omega⟩
   simp only at hb
   have hm : (facN (k + 1) : Int) * ((k + 2 : Nat) : Int) = ((facN (k + 2) : Nat) : Int) := by
    rw [<- Int.natCast_mul]
    congr 1
    rw [Nat.mul_comm]
    rfl
   have hb2 := facN_le ⟨k + 2, by omega⟩
   simp only at hb2
   ((repeat' (first | (apply WL.opN; exact yF; dsimp only [ZB, z0, z1]) | refine WL.nil ?_ | refine ZA fun Kx hK => ?_ | (refine hK _ _ ?_; clear hK) | refine WC.region ?_ | (apply WL.opN; (focus ((first | (exact SY.mulE hm (by omega) (OpD.t rfl) (OpD.t rfl)) | ((first | apply SY.move | apply SY.assign | apply SY.leq) <;> (exact oD)) | ((first | apply SY.add | apply SY.mul) <;> first | exact oD | omega) | fail); all_goals infer_instance)); dsimp only [ZB, z0, z1]) | (apply ZC; (exact oD); all_goals (intro h; try exact xD)) | refine WC.skip ?_ | refine WC.block ?_ | refine ThenD.n ?_)); all_goals (first | ((repeat clear hK); (repeat clear Kx))))
   all_goals try (exfalso; first | contradiction | omega)
   (refine ⟨k + 1, ?_, by first | omega | (simp only; omega), rfl, ?_⟩; rotate_left; ((try dsimp only [ZL, z0, z1]); repeat (first | exact LeF.nil | refine ZD (k := ?_))); (try dsimp only))
   omega
  ·((repeat' (first | (apply WL.opN; exact yF; dsimp only [ZB, z0, z1]) | refine WL.nil ?_ | refine ZA fun Kx hK => ?_ | (refine hK _ _ ?_; clear hK) | (refine Kont.skip ?_; clear hK) | refine WC.region ?_ | (apply WL.opN; (focus ((first | ((first | apply SY.move | apply SY.assign | apply SY.leq) <;> (exact oD)) | fail); all_goals infer_instance)); dsimp only [ZB, z0, z1]) | (apply ZC; (exact oD); all_goals (intro h; try exact xD)) | refine WC.ret ?_ | refine WC.exit ?_)); all_goals (first | ((repeat clear hK); (repeat clear Kx))))
   all_goals try (exfalso; first | contradiction | omega)
   (refine ⟨trivial, _, rfl, ?_⟩; refine FinD.i ?_)
   have : n = 0 \/ n = k + 1 := by omega
   rcases this with rfl | rfl
   ·have : k = 0 := by omega
    subst this
    rfl
   ·rfl
def sumF (l : Cx) : Nat := (l.map fun s => facN s.length).sum
theorem sumF_snoc {l : Cx} {i : Nat} (h : i < l.length) : sumF (l.take (i + 1)) = sumF (l.take i) + facN l[i].length := by
 unfold sumF; rw [List.take_succ_eq_append_getElem h, List.map_append, List.sum_append]; simp only [List.map_cons, List.map_nil, List.sum_cons, List.sum_nil, Nat.add_zero]
theorem sumF_le {l : Cx} (i : Nat) : sumF (l.take i) <= sumF l := by
 conv => rhs; rw [<- List.take_append_drop i l]
 unfold sumF
 rw [List.map_append, List.sum_append]
 omega
def barF (M : NumM) (l : Cx) : Cx := l.flatMap fun s => (ordS (2 ^ s.length - 1)).map (barV M s)
theorem barF_snoc {M : NumM} {l : Cx} {i : Nat} (h : i < l.length) : barF M (l.take (i + 1)) = barF M (l.take i) ++ (ordS (2 ^ l[i].length - 1)).map (barV M l[i]) := by
 unfold barF; rw [List.take_succ_eq_append_getElem h, List.flatMap_append]; simp
theorem barF_le {M : NumM} {l : Cx} (i : Nat) : (barF M (l.take i)).length <= (barF M l).length := by
 conv => rhs; rw [<- List.take_append_drop i l]
 unfold barF
 rw [List.flatMap_append, List.length_append]
 omega
end
end Go.Proofs.YtmcllakdbgnfiaaGreatDoor
