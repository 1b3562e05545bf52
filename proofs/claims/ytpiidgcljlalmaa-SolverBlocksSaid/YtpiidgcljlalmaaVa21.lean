/- Part 21: walks by contracts, and plain laws. -/
import Derived.Test.YtpiidgcljlalmaaVa18
set_option linter.unusedVariables false
set_option linter.unusedSimpArgs false
set_option linter.unusedSectionVars false
namespace Go.Proofs.Ytpiidgcljlalmaa.S43
section
variable {V : Nat} {s : SS} {W : Int → List Nat} {E : Nat → Prop}
theorem resolve_step (h : Inv V s W E) {p : Nat} {t : LS} {x : Int} (hx : s.trail[p]? = some x) (r : RInv s (p + 1) t) (h1 : 1 ≤ t.opn) :
    (t.seen x.natAbs = false ∧ RInv s p t ∧ resolve s (p + 1) t = resolve s p t) ∨
    (t.seen x.natAbs = true ∧ t.opn = 1 ∧ resolve s (p + 1) t = -x :: t.out) ∨
    (t.seen x.natAbs = true ∧ t.opn ≠ 1 ∧ ∃ rr c, s.rea x.natAbs = some rr ∧ s.list[rr]? = some c ∧ (∀ y ∈ c, y ≠ x → -y ∈ s.trail.take p) ∧ RInv s p { seen := t.seen, out := t.out, opn := t.opn - 1 } ∧
      RInv s p ((c.filter fun y => decide (y ≠ x)).foldl (look s) { seen := t.seen, out := t.out, opn := t.opn - 1 }) ∧ 1 ≤ ((c.filter fun y => decide (y ≠ x)).foldl (look s) { seen := t.seen, out := t.out, opn := t.opn - 1 }).opn ∧
      resolve s (p + 1) t = resolve s p ((c.filter fun y => decide (y ≠ x)).foldl (look s) { seen := t.seen, out := t.out, opn := t.opn - 1 })) := by
  have hxd : s.trail.getD p 0 = x := by rw [List.getD_eq_getElem?_getD, hx, Option.getD_some]
  have hu : resolve s (p + 1) t = if t.seen (s.trail.getD p 0).natAbs = false then resolve s p t
      else if t.opn = 1 then -(s.trail.getD p 0) :: t.out
      else resolve s p (((s.list.getD ((s.rea (s.trail.getD p 0).natAbs).getD 0) []).filter fun x => decide (x ≠ s.trail.getD p 0)).foldl (look s) { seen := t.seen, out := t.out, opn := t.opn - 1 }) := rfl
  rw [hxd] at hu
  have hp := (List.getElem?_eq_some_iff.1 hx).1
  have htk : s.trail.take (p + 1) = s.trail.take p ++ [x] := by
    obtain ⟨g1, g2⟩ := List.getElem?_eq_some_iff.1 hx
    rw [List.take_succ_eq_append_getElem g1, g2]
  have hc : cnt s (p + 1) t.seen = cnt s p t.seen + (if (decide (s.lev x.natAbs = s.begins.length) && t.seen x.natAbs) = true then 1 else 0) := by
    unfold cnt
    rw [htk, List.filter_append, List.length_append]
    congr 1
    rw [List.filter_cons]
    split <;> rfl
  have hxm : x ∈ s.trail := List.mem_of_getElem? hx
  by_cases hs : t.seen x.natAbs = false
  · rw [if_pos hs] at hu
    rw [hs, Bool.and_false, if_neg (by decide)] at hc
    exact .inl ⟨hs, ⟨r.out, r.dis, by rw [r.opn, hc]; rfl, r.low⟩, hu⟩
  · rw [if_neg hs] at hu
    have hs' : t.seen x.natAbs = true := by
      cases hq : t.seen x.natAbs
      · exact absurd hq hs
      · rfl
    -- the literal is of the last level
    have hlx : s.lev x.natAbs = s.begins.length := by
      by_cases hq : s.lev x.natAbs = s.begins.length
      · exact hq
      · rw [decide_eq_false hq, Bool.false_and, if_neg (by decide)] at hc
        have h2 : 0 < cnt s p t.seen := by have := r.opn; omega
        unfold cnt at h2
        obtain ⟨z, hz⟩ := List.exists_mem_of_length_pos h2
        obtain ⟨z1, z2⟩ := List.mem_filter.1 hz
        obtain ⟨q, q1, q2⟩ := mem_take_iff.1 z1
        have g1 := h.lev q z q2
        have g2 := h.lev p x hx
        have g3 := lvp_mono (bs := s.begins) (Nat.le_of_lt q1)
        have g4 := of_decide_eq_true (Bool.and_eq_true_iff.1 z2).1
        have g5 := h.lev_le hxm
        omega
    rw [hs', decide_eq_true hlx, if_pos (by decide)] at hc
    by_cases ho : t.opn = 1
    · rw [if_pos ho] at hu
      exact .inr (.inl ⟨hs', ho, hu⟩)
    · rw [if_neg ho] at hu
      cases hr : s.rea x.natAbs with
      | none =>
        exfalso
        have hpb := h.dec p x hx hr
        have h2 : 0 < cnt s p t.seen := by have := r.opn; omega
        unfold cnt at h2
        obtain ⟨z, hz⟩ := List.exists_mem_of_length_pos h2
        obtain ⟨z1, z2⟩ := List.mem_filter.1 hz
        obtain ⟨q, q1, q2⟩ := mem_take_iff.1 z1
        have g1 := h.lev q z q2
        have g2 := h.lev p x hx
        have g4 := of_decide_eq_true (Bool.and_eq_true_iff.1 z2).1
        -- the level begins at p: it does not count before
        have g5 : lvp s.begins q < lvp s.begins p := by
          have : ∀ bs : List Nat, p ∈ bs → lvp bs q < lvp bs p := by
            intro bs
            induction bs with
            | nil => intro q; cases q
            | cons b bs ih =>
              intro hb
              have e1 : lvp (b :: bs) q = lvp [b] q + lvp bs q := lvp_append [b] bs q
              have e2 : lvp (b :: bs) p = lvp [b] p + lvp bs p := lvp_append [b] bs p
              have m1 := lvp_mono (bs := [b]) (Nat.le_of_lt q1)
              have m2 := lvp_mono (bs := bs) (Nat.le_of_lt q1)
              rcases List.mem_cons.1 hb with q3 | q3
              · subst q3
                have e3 : lvp [p] q = 0 := lvp_none fun b hb => by rw [List.mem_singleton.1 hb]; exact q1
                have e4 : lvp [p] p = 1 := lvp_all fun b hb => by rw [List.mem_singleton.1 hb]; exact Nat.le_refl _
                omega
              · have := ih q3
                omega
          exact this _ hpb
        omega
      | some rr =>
        obtain ⟨c, c1, c2, c3⟩ := h.rea p x hx rr hr
        have hg : s.list.getD ((some rr).getD 0) [] = c := by
          rw [Option.getD_some, List.getD_eq_getElem?_getD, c1, Option.getD_some]
        rw [hr, hg] at hu
        have r0 : RInv s p { seen := t.seen, out := t.out, opn := t.opn - 1 } := ⟨r.out, r.dis, by
          show t.opn - 1 = cnt s p t.seen
          rw [r.opn, hc]
          omega, r.low⟩
        obtain ⟨b1, b2, b3, b4, b5⟩ := looks_ok h (c.filter fun y => decide (y ≠ x)) _ r0 fun y hy => by
          obtain ⟨y1, y2⟩ := List.mem_filter.1 hy
          exact c3 y y1 (of_decide_eq_true y2)
        exact .inr (.inr ⟨hs', ho, rr, c, rfl, c1, c3, r0, b1, Nat.le_trans (by show 1 ≤ t.opn - 1; omega) b2, hu⟩)
theorem RInv.pos {p : Nat} {t : LS} (r : RInv s p t) (h1 : 1 ≤ t.opn) : 0 < p := by
  rcases Nat.eq_zero_or_pos p with rfl | h
  · have := r.opn
    unfold cnt at this
    simp at this
    omega
  · exact h
abbrev lk0 : LS := { seen := fun _ => false, out := [], opn := 0 }
theorem lk0_inv (p : Nat) : RInv s p lk0 := ⟨(fun y hy => by cases hy), List.Pairwise.nil, (by
  unfold cnt
  rw [List.filter_eq_nil_iff.2 fun x _ => by simp]
  rfl), fun v hv => by cases hv⟩
theorem look_take {c : Cl} {t : LS} {i : Nat} (h : i < c.length) : (c.take (i + 1)).foldl (look s) t = look s ((c.take i).foldl (look s) t) c[i] := by
  rw [List.take_succ_eq_append_getElem h, List.foldl_append]; rfl
theorem learn_start {k : Nat} (h : CInv V s k) (hb : s.begins ≠ []) : ∃ (W : Int → List Nat) (E : Nat → Prop) (c : Cl), Inv V s W E ∧ s.list[k]? = some c ∧ (∀ y ∈ c, -y ∈ s.trail) ∧ RInv s s.trail.length (c.foldl (look s) { seen := fun _ => false, out := [], opn := 0 }) ∧ 1 ≤ (c.foldl (look s) { seen := fun _ => false, out := [], opn := 0 }).opn := by
  obtain ⟨E, w, c, hI, h0, hat, hbb, hc, hwc, hf⟩ := h.ex
  have hL : 0 < s.begins.length := List.length_pos_iff.2 hb
  have hlen : s.trail.take s.trail.length = s.trail := List.take_length ..
  have r0 : RInv s s.trail.length { seen := fun _ => false, out := [], opn := 0 } := ⟨(fun y hy => by cases hy), List.Pairwise.nil, (by
    unfold cnt
    rw [List.filter_eq_nil_iff.2 fun x _ => by simp]
    rfl), fun v hv => by cases hv⟩
  obtain ⟨b1, b2, b3, b4, b5⟩ := looks_ok hI c _ r0 fun y hy => by rw [hlen]; exact hf y hy
  have hwl : s.lev w.natAbs = s.begins.length := by
    have := hI.lev _ _ hat
    rw [Int.natAbs_neg] at this
    rw [this, lvp_all fun b hb => by have := hbb b hb; omega]
  have hop : 1 ≤ (c.foldl (look s) { seen := fun _ => false, out := [], opn := 0 }).opn := by
    rw [b1.opn]
    unfold cnt
    rw [hlen]
    refine List.length_pos_of_mem (a := -w) (List.mem_filter.2 ⟨List.mem_of_getElem? hat, ?_⟩)
    rw [Int.natAbs_neg, decide_eq_true hwl, Bool.true_and]
    rcases b5 w hwc with q | q
    · omega
    · exact q
  exact ⟨_, E, c, hI, hc, hf, b1, hop⟩
end
end Go.Proofs.Ytpiidgcljlalmaa.S43
namespace Go.Proofs.Ytpiidgcljlalmaa
open Go.RowKit
open S43 (SS LS up learnS topS)
def pSeen (seen : Nat → Bool) : (Int → Option Bool) → Prop := fun g => ∀ v : Nat, (g (v : Int)).getD false = seen v
theorem pSeen_up {seen : Nat → Bool} {v : Nat} : ∀ f, pSeen seen f → pSeen (up seen v true) (upF f (v : Int) (some true)) := fun f h y => by
  unfold upF up
  by_cases e : y = v
  · rw [if_pos (by rw [e]), if_pos e]; rfl
  · rw [if_neg (by omega), if_neg e]; exact h y
theorem SY.seenH {ops : Array Oper} {hp : List HObj} {fr : List Dat} {dst : Option Tmp} {ty : TypeId} {ps : String} {af : Array Edge} {g : Option (Nat × Bool)} {b : Nat} {x y : Operand} {seen : Nat → Bool} {l : Nat} {u : Bool} (hu : seen l = u) (hx : OpD fr x (dX (.map (some b)))) (hm : hG b kvI is64 vvB (pSeen seen) ∈ hp) (hy : OpD fr y (dI (l : Int))) (ho : is64 (l : Int)) :
    SY Try.prog ops hp { dst := dst, op := .lookup 76 x y false, type := ty, pos := ps, after := af, guard := g } fr (dB u) :=
  SY.lookG mapT_b keyT_I hx hm hy isI ho fun I w f hf => by
    have := hf l
    rw [hu] at this
    cases h : f (l : Int) <;> rw [h] at this <;> simp at this <;> rw [← this] <;> rfl
abbrev ptrN (b : Nat) : Value := .pointer (some ⟨b, 0, none⟩)
abbrev lkO (X : Lay) (V : Nat) (s : SS) (v2 : Value) (b6 b7 b8 bm : Nat) (vo : Value) (t : LS) : List HObj :=
  [kPtr X v2, oS X V s, oL X s, oB X s, hCell b7 76 1 false (dX (.map (some bm))), hCell b8 tI 1 false (dI (t.opn : Int)), hCell b6 25 1 false (dX vo), hRow vo tI RI t.out, hG bm kvI is64 vvB (pSeen t.seen)]
set_option linter.unusedSimpArgs false
set_option linter.unusedVariables false
set_option maxHeartbeats 2000000
set_option maxRecDepth 100000
set_option maxHeartbeats 8000000 in
theorem look_c (X : Lay) (V : Nat) (s : SS) (v2 : Value) (b6 b7 b8 bm : Nat) (vo : Value) (t : LS) (x : Int) (hx : x.natAbs ≤ 1000000) (ho : t.out.length ≤ 1000000) (hn : t.opn ≤ 1000000) :
    CallC Try.prog 100 ([dI x] ++ [ptrN b7, v2, ptrN b8, ptrN b6].map dX) (lkO X V s v2 b6 b7 b8 bm vo t) (fun _ hp2 => ∃ vo', hp2 = lkO X V s v2 b6 b7 b8 bm vo' (S43.look s t x)) := by
  (refine CallC.intro0 Try.func100 rfl rfl (fun hp => ?_); simp only [Try.ntmps100, List.length_cons, List.length_nil, List.length_append, List.length_map, Nat.reduceAdd, Nat.reduceSub, List.replicate_succ, List.replicate_zero, List.cons_append, List.nil_append, List.map_cons, List.map_nil, List.append_assoc])
  have hv := variable_p x hx
  have h6 : is64 ((x.natAbs : Nat) : Int) := by unfold is64; omega
  have hbl : (ints s.begins).length = s.begins.length := ints_len _
  have hcast : (t.opn : Int) + 1 = ((t.opn + 1 : Nat) : Int) := by omega
  have h8 : (t.out.length + 1) * 8 ≤ 140737488355328 := by omega
  cases hs : t.seen x.natAbs with
  | true =>
    have e : S43.look s t x = t := by unfold S43.look; rw [hs]; rfl
    rw [e]
    ((repeat' (first | ((first | apply WL.opN | apply WD.opN); exact yF; dsimp only [setD, z0, z1]) | refine WL.nil ?_ | refine WC.seqK fun Kx hK => ?_ | (refine hK _ _ ?_; clear hK) | refine WC.region ?_ | ((first | apply WL.opG | apply WD.op); (focus (first | exact wN | (apply SYG.yes; (exact wY); ((first | (apply SY.call (hv) Try.call98; (exact aD)) | (apply SY.loadH tyF; exact OpD.t rfl; exact mAt 4 rfl) | (exact SY.seenH hs (OpD.t rfl) (mAt 8 rfl) (OpD.t rfl) h6) | (apply SY.pickT; (exact oD); (with_reducible rfl); (exact oD)) | fail); all_goals infer_instance)))); dsimp only [setD, z0, z1]) | (apply WC.condT; (exact oD); (with_reducible rfl)) | refine WC.ret ?_ | refine ThenD.r ?_)); all_goals (first | ((repeat clear hK); (repeat clear Kx))))
    all_goals try (exfalso; first | contradiction | omega)
    exact ⟨trivial, lkO X V s v2 b6 b7 b8 bm vo t, rfl, vo, rfl⟩
  | false =>
    (repeat' (first | ((first | apply WL.opN | apply WD.opN); exact yF; dsimp only [setD, z0, z1]) | refine WL.nil ?_ | refine WD.nil ?_ | refine WC.seqK fun Kx hK => ?_ | (refine hK _ _ ?_; clear hK) | refine WC.region ?_ | (apply WC.draw; kernel_rfl; kernel_rfl) |  (refine WL.ofSW (SW.at 8 rfl fun q => SW.updG (pSeen (up t.seen x.natAbs true)) mapT_b keyT_I (OpD.t rfl) (OpD.t rfl) isI OpD.b isB h6 pSeen_up) fun _ => ?_; dsimp only [setD, z0, z1]) |  (refine WL.ofSW (SW.at 5 rfl fun q => SW.storeK tyI (OpD.t rfl) (OpD.t rfl) shape_I) fun _ => ?_; dsimp only [setD, z0, z1]) |  (refine WL.ofSW (SW.at 7 rfl fun q => SW.app1 elI (OpD.t rfl) (OpD.t rfl) (by decide) h8) fun vo' => ?_; refine WL.rowIs (mAt 7 rfl) fun hvv => ?_; dsimp only [setD, z0, z1]) |  (refine WL.ofSW (SW.at 6 rfl fun q => SW.storeK tySi (OpD.t rfl) (OpD.t rfl) (shape_X hvv)) fun _ => ?_; dsimp only [setD, z0, z1]) | ((first | apply WL.opG | apply WD.op); (focus (first | exact wN | (apply SYG.yes; (exact wY); ((first | (apply SY.call (hv) Try.call98; (exact aD)) | (apply SY.loadH tyF; exact OpD.t rfl; exact mAt 4 rfl) | (exact SY.loadKn tyC (OpD.t rfl) (mAt 0 rfl)) | (exact SY.nilCk (OpD.t rfl)) | (refine SY.fldS strS (OpD.t rfl) (by decide)) | (apply SY.loadS; (first | exact tyFL | exact tySi); exact OpD.t rfl; exact mAt 1 rfl; rfl) | (exact SY.seenH hs (OpD.t rfl) (mAt 8 rfl) (OpD.t rfl) h6) | (exact SY.levG (OpD.t rfl) (mAt 2 rfl) (OpD.t rfl) h6) | (exact SY.lenRE hbl (OpD.t rfl) (mAt 3 rfl) elI.unt) | (apply SY.loadH tyI; exact OpD.t rfl; exact mAt 5 rfl) | (apply SY.loadH tySi; exact OpD.t rfl; exact mAt 6 rfl) | (exact hcast ▸ SY.add (OpD.t rfl) OpD.i (by omega)) | ((first | apply SY.move | apply SY.assign | apply SY.eql) <;> (exact oD)) | (apply SY.build1'; (exact eD); ((try simp only [List.map_cons, List.map_nil]); (repeat (first | exact ElsD.nl | (apply ElsD.cn; (first | exact OpD.t rfl | exact OpD.i | exact OpD.b | exact OpD.tle rfl (by first | exact Dat.le_nil | exact Dat.le_nilK (by decide)) | exact ⟨Dat.le_nil⟩ | exact ⟨Dat.le_nilK (by decide)⟩))))); rfl; rfl; (intro _; first | exact shape_K | exact shape_I | exact shape_A | exact shape_B); (exact (by simp))) | (apply SY.pickF; (exact oD); (with_reducible rfl); (exact oD)) | fail); all_goals infer_instance)))); dsimp only [setD, z0, z1]) | (apply WC.condD; (exact oD); all_goals (intro h; try exact xD)) | refine WC.skip ?_ | refine WC.ret ?_ | refine ThenD.r ?_))
    all_goals try (exfalso; first | contradiction | omega)
    · rename_i hz
      have e : S43.look s t x = t := by unfold S43.look; rw [hs, if_pos (by simp; omega)]
      rw [e]
      exact ⟨trivial, lkO X V s v2 b6 b7 b8 bm vo t, rfl, vo, rfl⟩
    · rename_i hz _
      have e : S43.look s t x = { seen := up t.seen x.natAbs true, out := t.out, opn := t.opn + 1 } := by
        unfold S43.look
        rw [hs, if_neg (by simp; omega), if_pos (by omega)]
      rw [e]
      exact ⟨trivial, lkO X V s v2 b6 b7 b8 bm vo { seen := up t.seen x.natAbs true, out := t.out, opn := t.opn + 1 }, rfl, vo, rfl⟩
    · rename_i hz _
      have e : S43.look s t x = { seen := up t.seen x.natAbs true, out := t.out ++ [x], opn := t.opn } := by
        unfold S43.look
        rw [hs, if_neg (by simp; omega), if_neg (by omega)]
      rw [e]
      exact ⟨trivial, lkO X V s v2 b6 b7 b8 bm vo' { seen := up t.seen x.natAbs true, out := t.out ++ [x], opn := t.opn }, rfl, vo', rfl⟩
end Go.Proofs.Ytpiidgcljlalmaa
namespace Go.Proofs.Ytpiidgcljlalmaa
open Go.RowKit

def varI (x : Int) : Int := if x < 0 then wrap64 (-x) else x
def goodI (vars l : Int) : Bool := decide (l ≠ 0 ∧ -vars ≤ l ∧ l ≤ vars)
def hasI : List Int → Int → Bool
  | [], _ => false
  | x :: l, n => if x = n then true else hasI l n
def clauseI (vars : Int) : Option Int → List Int → Int
  | _, [] => 0
  | none, x :: l => if goodI vars x = true then clauseI vars (some x) l else 2
  | some p, x :: l => if goodI vars x = true then (if varI x ≤ varI p then 14 else clauseI vars (some x) l) else 2
def sizesI (vars : Int) (n : Nat) : Int := if vars < 0 ∨ 4096 < vars then 2 else if 32768 < n then 5 else 0
def clausesI (vars : Int) : List (List Int) → Int
  | [] => 0
  | c :: l => if clauseI vars none c ≠ 0 then clauseI vars none c else clausesI vars l
def checkI (vars : Int) (l : List (List Int)) : Int := if sizesI vars l.length ≠ 0 then sizesI vars l.length else clausesI vars l
def trueI : List Int → List Int → Bool
  | [], _ => false
  | x :: c, l => if hasI l x = true then true else trueI c l
def withoutI : List Int → List Int → List Int
  | [], _ => []
  | x :: c, l => if hasI l (wrap64 (-x)) = true then withoutI c l else x :: withoutI c l
def stepI : Nat → List (List Int) → List Int → Option (Nat × List Int)
  | _, [], _ => none
  | i, c :: l, a => if trueI c a = true then stepI (i + 1) l a else if (withoutI c a).length < 2 then some (i, withoutI c a) else stepI (i + 1) l a

def prevI (zs : List Int) : Nat → Option Int
  | 0 => none
  | k + 1 => zs[k]?
theorem clauseI_bad {vars : Int} {zs : List Int} {k : Nat} (h : k < zs.length) (hx : ¬ goodI vars zs[k] = true) : clauseI vars (prevI zs k) (zs.drop k) = 2 := by
  rw [List.drop_eq_getElem_cons h]
  cases prevI zs k <;> simp [clauseI, hx]
theorem clauseI_zero {vars : Int} {zs : List Int} (h : 0 < zs.length) (hx : goodI vars zs[0] = true) : clauseI vars (prevI zs 0) (zs.drop 0) = clauseI vars (prevI zs 1) (zs.drop 1) := by
  rw [List.drop_eq_getElem_cons h, prevI, clauseI, if_pos hx, prevI, List.getElem?_eq_getElem h]
theorem clauseI_succ {vars : Int} {zs : List Int} {k : Nat} (h : k + 1 < zs.length) (hx : goodI vars zs[k + 1] = true) :
    clauseI vars (prevI zs (k + 1)) (zs.drop (k + 1)) = if varI zs[k + 1] ≤ varI zs[k] then 14 else clauseI vars (prevI zs (k + 1 + 1)) (zs.drop (k + 1 + 1)) := by
  have h1 : prevI zs (k + 1) = some zs[k] := List.getElem?_eq_getElem (by omega)
  have h2 : prevI zs (k + 1 + 1) = some zs[k + 1] := List.getElem?_eq_getElem h
  rw [List.drop_eq_getElem_cons h, h1, h2, clauseI, if_pos hx]

def stepIx : Option (Nat × List Int) → Int
  | none => -1
  | some (i, _) => i
end Go.Proofs.Ytpiidgcljlalmaa
namespace Go.Proofs.Ytpiidgcljlalmaa
open Go.RowKit

def negI (c : List Int) : List Int := c.map fun x => wrap64 (-x)
def openI (c : List (List Int)) (a : List Int) : Nat := (c.flatten.filter fun x => !hasI a x).length
def unitsF : Nat → List (List Int) → List Int → List Int × Int
  | 0, c, a => (a, stepIx (stepI 0 c a))
  | n + 1, c, a => match stepI 0 c a with
    | some (_, [x]) => unitsF n c (a ++ [x])
    | r => (a, stepIx r)
def unitsI (c : List (List Int)) (a : List Int) : List Int × Int := unitsF (openI c a) c a
def followsI (c : List (List Int)) (x : List Int) : Bool := decide (0 ≤ (unitsI c (negI x)).2)
def gapF : Nat → List (List Int) → List (List Int) → Option Nat
  | _, _, [] => none
  | i, l, c :: p => if followsI l c = true then gapF (i + 1) (l ++ [c]) p else some i
def lastBad (p : List (List Int)) : Bool := match p.getLast? with
  | none => true
  | some c => decide (0 < c.length)
def gapI (l p : List (List Int)) : Int := match gapF 0 l p with
  | some i => i
  | none => if lastBad p = true then p.length else -1
def refutesI (l p : List (List Int)) : Bool := decide (gapI l p < 0)
def badI (vars : Int) : Nat → List (List Int) → Option (Nat × Int)
  | _, [] => none
  | i, c :: p => if clauseI vars none c ≠ 0 then some (i, clauseI vars none c) else badI vars (i + 1) p
def verifyI (vars : Int) (l p : List (List Int)) : Int × Int :=
  if checkI vars l ≠ 0 then (0, checkI vars l) else if 32768 < p.length then (0, 5) else
  match badI vars 0 p with
  | some r => (r.1, r.2)
  | none => if 0 ≤ gapI l p then (gapI l p, 18) else (0, 0)
def impliedI (vars : Int) (l : List (List Int)) (c : List Int) : Bool × Int :=
  if checkI vars l ≠ 0 then (false, checkI vars l) else if clauseI vars none c ≠ 0 then (false, clauseI vars none c) else (followsI l c, 0)
def emptyI (vars : Int) (l : List (List Int)) : Bool × Int := if checkI vars l ≠ 0 then (false, checkI vars l) else (followsI l [], 0)
def remI {α : Type} (l : List α) (i : Nat) : List α := l.take i ++ l.drop (i + 1)
def prune {α : Type} (ok : List α → Bool) : Nat → List α → List α
  | 0, l => l
  | i + 1, l => prune ok i (if ok (remI l i) = true then remI l i else l)
def trimI (l p : List (List Int)) : List (List Int) := prune (refutesI l) (p.length - 1) p
def chosenI (l : List (List Int)) (which : List Int) : List (List Int) := which.map fun i => l.getD i.toNat []
def upI (n : Nat) : List Int := (List.range n).map Int.ofNat
def coreI (l p : List (List Int)) : List Int := prune (fun x => refutesI (chosenI l x) p) l.length (upI l.length)
def few2I : Nat → List (List Int) → Bool
  | _, [] => true
  | i, c :: l => if i < 40 then (if 20 < c.length then false else few2I (i + 1) l) else true
def few2B (p : List (List Int)) : Bool := if few2I 0 p = true then decide (p.length ≤ 20 ∨ 32768 < p.length) else false

theorem sizesI_zero {vars : Int} {n : Nat} (h : sizesI vars n = 0) : 0 ≤ vars ∧ vars ≤ 4096 ∧ n ≤ 32768 := by
  unfold sizesI at h
  by_cases h1 : vars < 0 ∨ 4096 < vars
  · rw [if_pos h1] at h; omega
  · rw [if_neg h1] at h
    by_cases h2 : 32768 < n
    · rw [if_pos h2] at h; omega
    · omega
theorem checkI_zero {vars : Int} {l : List (List Int)} (h : checkI vars l = 0) : 0 ≤ vars ∧ vars ≤ 4096 ∧ l.length ≤ 32768 ∧ clausesI vars l = 0 := by
  unfold checkI at h
  by_cases h1 : sizesI vars l.length = 0
  · rw [if_neg (by simp [h1])] at h
    have := sizesI_zero h1
    exact ⟨this.1, this.2.1, this.2.2, h⟩
  · rw [if_pos h1] at h; exact absurd h h1

theorem few2I_step {l : List (List Int)} {k : Nat} (h : k < l.length) : few2I k (l.drop k) = if k < 40 then (if 20 < (l[k]).length then false else few2I (k + 1) (l.drop (k + 1))) else true := by
  rw [List.drop_eq_getElem_cons h, few2I]
theorem gapF_step {l p : List (List Int)} {k i : Nat} (h : k < p.length) : gapF i l (p.drop k) = if followsI l p[k] = true then gapF (i + 1) (l ++ [p[k]]) (p.drop (k + 1)) else some i := by
  rw [List.drop_eq_getElem_cons h, gapF]
theorem badI_step {vars : Int} {p : List (List Int)} {k i : Nat} (h : k < p.length) : badI vars i (p.drop k) = if clauseI vars none p[k] ≠ 0 then some (i, clauseI vars none p[k]) else badI vars (i + 1) (p.drop (k + 1)) := by
  rw [List.drop_eq_getElem_cons h, badI]
theorem hasI_iff : ∀ {l : List Int} {n : Int}, hasI l n = true ↔ n ∈ l
  | [], n => by simp [hasI]
  | x :: l, n => by
    simp only [hasI, List.mem_cons]
    by_cases h : x = n
    · simp [h]
    · simp only [if_neg h, hasI_iff]; constructor
      · exact .inr
      · rintro (rfl | h'); exact absurd rfl h; exact h'
theorem trueI_iff : ∀ {c l : List Int}, trueI c l = true ↔ ∃ x ∈ c, x ∈ l
  | [], l => by simp [trueI]
  | x :: c, l => by
    simp only [trueI]
    by_cases h : hasI l x = true
    · simp only [h, if_true, true_iff]; exact ⟨x, by simp, hasI_iff.1 h⟩
    · rw [if_neg h, trueI_iff]
      simp only [List.mem_cons]
      constructor
      · rintro ⟨y, hy, h'⟩; exact ⟨y, .inr hy, h'⟩
      · rintro ⟨y, rfl | hy, h'⟩
        · exact absurd (hasI_iff.2 h') h
        · exact ⟨y, hy, h'⟩
theorem withoutI_mem : ∀ {c l : List Int} {x : Int}, x ∈ withoutI c l ↔ x ∈ c ∧ wrap64 (-x) ∉ l
  | [], l, x => by simp [withoutI]
  | y :: c, l, x => by
    simp only [withoutI]
    by_cases h : hasI l (wrap64 (-y)) = true
    · simp only [h, if_true, withoutI_mem, List.mem_cons]
      constructor
      · rintro ⟨a, b⟩; exact ⟨.inr a, b⟩
      · rintro ⟨rfl | a, b⟩
        · exact absurd (hasI_iff.1 h) b
        · exact ⟨a, b⟩
    · rw [if_neg h]
      simp only [List.mem_cons, withoutI_mem]
      have h' : wrap64 (-y) ∉ l := fun hc => h (hasI_iff.2 hc)
      constructor
      · rintro (rfl | ⟨a, b⟩)
        · exact ⟨.inl rfl, h'⟩
        · exact ⟨.inr a, b⟩
      · rintro ⟨rfl | a, b⟩
        · exact .inl rfl
        · exact .inr ⟨a, b⟩
theorem stepI_some : ∀ {c : List (List Int)} {a : List Int} {k i : Nat} {o : List Int}, stepI k c a = some (i, o) → k ≤ i ∧ i < k + c.length ∧ ∃ x ∈ c, trueI x a = false ∧ o = withoutI x a ∧ o.length < 2
  | [], a, k, i, o, h => by simp [stepI] at h
  | x :: c, a, k, i, o, h => by
    simp only [stepI] at h
    by_cases ht : trueI x a = true
    · rw [if_pos ht] at h
      obtain ⟨h1, h2, y, hy, r⟩ := stepI_some h
      exact ⟨by omega, by simp; omega, y, by simp [hy], r⟩
    · rw [if_neg ht] at h
      by_cases hl : (withoutI x a).length < 2
      · rw [if_pos hl] at h
        simp only [Option.some.injEq, Prod.mk.injEq] at h
        obtain ⟨rfl, rfl⟩ := h
        exact ⟨Nat.le_refl _, by simp, x, by simp, by simpa using ht, rfl, hl⟩
      · rw [if_neg hl] at h
        obtain ⟨h1, h2, y, hy, r⟩ := stepI_some h
        exact ⟨by omega, by simp; omega, y, by simp [hy], r⟩
theorem stepI_none : ∀ {c : List (List Int)} {a : List Int} {k : Nat}, stepI k c a = none → ∀ x ∈ c, trueI x a = true ∨ 2 ≤ (withoutI x a).length
  | [], a, k, h => by simp
  | x :: c, a, k, h => by
    simp only [stepI] at h
    by_cases ht : trueI x a = true
    · rw [if_pos ht] at h
      intro y hy
      rcases List.mem_cons.1 hy with rfl | hy
      · exact .inl ht
      · exact stepI_none h y hy
    · rw [if_neg ht] at h
      by_cases hl : (withoutI x a).length < 2
      · rw [if_pos hl] at h; cases h
      · rw [if_neg hl] at h
        intro y hy
        rcases List.mem_cons.1 hy with rfl | hy
        · exact .inr (by omega)
        · exact stepI_none h y hy

theorem filter_length_lt {α : Type} {p q : α → Bool} : ∀ {l : List α}, (∀ x, q x = true → p x = true) → ∀ {y : α}, y ∈ l → p y = true → q y = false → (l.filter q).length < (l.filter p).length
  | [], _, y, hy, _, _ => by cases hy
  | x :: l, h, y, hy, h1, h2 => by
    have hle : (l.filter q).length ≤ (l.filter p).length := by
      clear hy h1 h2
      induction l with
      | nil => simp
      | cons z l ih =>
        simp only [List.filter_cons]
        by_cases hq : q z = true
        · simp only [hq, h z hq, if_true, List.length_cons]; omega
        · by_cases hp : p z = true
          · simp only [hq, hp, if_true, Bool.false_eq_true, if_false, List.length_cons]; omega
          · simp only [hq, hp, Bool.false_eq_true, if_false]; exact ih
    rcases List.mem_cons.1 hy with rfl | hy
    · simp only [List.filter_cons, h1, h2, if_true, Bool.false_eq_true, if_false, List.length_cons]; omega
    · have ih := filter_length_lt h hy h1 h2
      simp only [List.filter_cons]
      by_cases hq : q x = true
      · simp only [hq, h x hq, if_true, List.length_cons]; omega
      · by_cases hp : p x = true
        · simp only [hq, hp, if_true, Bool.false_eq_true, if_false, List.length_cons]; omega
        · simp only [hq, hp, Bool.false_eq_true, if_false]; exact ih

theorem openI_lt {c : List (List Int)} {a : List Int} {i : Nat} {x : Int} (h : stepI 0 c a = some (i, [x])) : openI c (a ++ [x]) < openI c a := by
  obtain ⟨_, _, cl, hcl, ht, ho, _⟩ := stepI_some h
  have hx : x ∈ withoutI cl a := by rw [← ho]; simp
  have hxc := (withoutI_mem.1 hx).1
  have hna : x ∉ a := fun hc => by
    have : trueI cl a = true := trueI_iff.2 ⟨x, hxc, hc⟩
    rw [ht] at this; cases this
  refine filter_length_lt (fun y hy => ?_) (y := x) (List.mem_flatten.2 ⟨cl, hcl, hxc⟩) ?_ ?_
  · simp only [Bool.not_eq_true', ← Bool.not_eq_true, hasI_iff, List.mem_append] at hy ⊢
    exact fun hc => hy (.inl hc)
  · simp only [Bool.not_eq_true', ← Bool.not_eq_true, hasI_iff]; exact hna
  · simp only [Bool.not_eq_false', hasI_iff]; simp
theorem unitsF_ge : ∀ {n m : Nat} {c : List (List Int)} {a : List Int}, openI c a ≤ n → openI c a ≤ m → unitsF n c a = unitsF m c a
  | 0, 0, c, a, _, _ => rfl
  | 0, m + 1, c, a, h, _ => by
    unfold unitsF
    split
    · rename_i i x hs; have := openI_lt hs; omega
    · rfl
  | n + 1, 0, c, a, _, h => by
    unfold unitsF
    split
    · rename_i i x hs; have := openI_lt hs; omega
    · rfl
  | n + 1, m + 1, c, a, h1, h2 => by
    unfold unitsF
    split
    · rename_i i x hs; have := openI_lt hs; exact unitsF_ge (by omega) (by omega)
    · rfl
theorem unitsI_more {c : List (List Int)} {a : List Int} {i : Nat} {x : Int} (h : stepI 0 c a = some (i, [x])) : unitsI c a = unitsI c (a ++ [x]) := by
  have hl := openI_lt h
  unfold unitsI
  have e1 : unitsF (openI c a) c a = unitsF (openI c a - 1 + 1) c a := by congr 1; omega
  rw [e1, unitsF, h]
  exact unitsF_ge (by omega) (Nat.le_refl _)
theorem unitsI_end {c : List (List Int)} {a : List Int} (h : ∀ i x, stepI 0 c a ≠ some (i, [x])) : unitsI c a = (a, stepIx (stepI 0 c a)) := by
  unfold unitsI
  cases openI c a with
  | zero => rfl
  | succ n =>
    unfold unitsF
    split
    · rename_i i x hs; exact absurd hs (h i x)
    · rfl

end Go.Proofs.Ytpiidgcljlalmaa
namespace Go.Proofs.Ytpiidgcljlalmaa
open Go.RowKit

def valI (vals : List Int) (x : Int) : Int := if x < 0 then -(vals.getD (-x).toNat 0) else vals.getD x.toNat 0
def setI (vals : List Int) (x : Int) : List Int := if x < 0 then vals.set (-x).toNat (-1) else vals.set x.toNat 1
def unitI (vals : List Int) : Int → List Int → Int × Bool
  | o, [] => (o, decide (o = 0))
  | o, x :: c => if 0 < valI vals x ∨ (valI vals x = 0 ∧ o ≠ 0) then (0, false) else if valI vals x = 0 then unitI vals x c else unitI vals o c
def passF : List (List Int) → List Int → Bool → Option (List Int × Bool)
  | [], vals, ch => some (vals, ch)
  | c :: l, vals, ch => if (unitI vals 0 c).2 = true then none else if (unitI vals 0 c).1 ≠ 0 then passF l (setI vals (unitI vals 0 c).1) true else passF l vals ch
def conflictF : Nat → List (List Int) → List Int → Bool
  | 0, _, _ => false
  | n + 1, l, vals => match passF l vals false with
    | none => true
    | some (v, true) => conflictF n l v
    | some (_, false) => false
def conflictI (l : List (List Int)) (vals : List Int) : Bool := conflictF (vals.count 0 + 1) l vals
def Signs (vals : List Int) : Prop := ∀ v ∈ vals, -1 ≤ v ∧ v ≤ 1
def InR (m : Nat) (l : List (List Int)) : Prop := ∀ c ∈ l, ∀ x ∈ c, x.natAbs < m

theorem setI_length (vals : List Int) (x : Int) : (setI vals x).length = vals.length := by unfold setI; split <;> simp
theorem setI_signs {vals : List Int} (h : Signs vals) (x : Int) : Signs (setI vals x) := by
  intro v hv
  unfold setI at hv
  split at hv
  · rcases List.mem_or_eq_of_mem_set hv with h' | rfl
    · exact h v h'
    · omega
  · rcases List.mem_or_eq_of_mem_set hv with h' | rfl
    · exact h v h'
    · omega
theorem unitI_open {vals : List Int} : ∀ {c : List Int} {o : Int}, (unitI vals o c).1 ≠ 0 → (unitI vals o c).1 = o ∨ ((unitI vals o c).1 ∈ c ∧ valI vals (unitI vals o c).1 = 0)
  | [], o, _ => .inl rfl
  | x :: c, o, h => by
    simp only [unitI] at h ⊢
    split
    · rename_i h1; rw [if_pos h1] at h; exact absurd rfl h
    · rename_i h1
      rw [if_neg h1] at h
      split
      · rename_i h2
        rw [if_pos h2] at h
        rcases unitI_open h with e | ⟨e1, e2⟩
        · exact .inr ⟨by rw [e]; simp, by rw [e]; exact h2⟩
        · exact .inr ⟨by simp [e1], e2⟩
      · rename_i h2
        rw [if_neg h2] at h
        rcases unitI_open h with e | ⟨e1, e2⟩
        · exact .inl e
        · exact .inr ⟨by simp [e1], e2⟩
theorem unitI_mem {vals : List Int} {c : List Int} (h : (unitI vals 0 c).1 ≠ 0) : (unitI vals 0 c).1 ∈ c ∧ valI vals (unitI vals 0 c).1 = 0 :=
  (unitI_open h).resolve_left h
theorem setI_count {vals : List Int} {x : Int} (hx : x.natAbs < vals.length) (h : valI vals x = 0) : (setI vals x).count 0 < vals.count 0 := by
  unfold valI at h
  unfold setI
  by_cases hn : x < 0
  · rw [if_pos hn] at h ⊢
    have hk : (-x).toNat < vals.length := by omega
    rw [List.getD_eq_getElem?_getD, List.getElem?_eq_getElem hk, Option.getD_some] at h
    have h0 : vals[(-x).toNat] = 0 := by omega
    have hm : 0 < vals.count 0 := List.count_pos_iff.2 (h0 ▸ List.getElem_mem hk)
    rw [List.count_set hk, h0]
    simp; omega
  · rw [if_neg hn] at h ⊢
    have hk : x.toNat < vals.length := by omega
    rw [List.getD_eq_getElem?_getD, List.getElem?_eq_getElem hk, Option.getD_some] at h
    have hm : 0 < vals.count 0 := List.count_pos_iff.2 (h ▸ List.getElem_mem hk)
    rw [List.count_set hk, h]
    simp; omega
theorem passF_some : ∀ {l : List (List Int)} {vals v : List Int} {ch ch' : Bool}, InR vals.length l → passF l vals ch = some (v, ch') → v.length = vals.length ∧ v.count 0 ≤ vals.count 0 ∧ (ch' = true → ch = true ∨ v.count 0 < vals.count 0) ∧ (Signs vals → Signs v)
  | [], vals, v, ch, ch', _, h => by
    simp only [passF, Option.some.injEq, Prod.mk.injEq] at h
    obtain ⟨rfl, rfl⟩ := h
    exact ⟨rfl, Nat.le_refl _, .inl, id⟩
  | c :: l, vals, v, ch, ch', hr, h => by
    simp only [passF] at h
    split at h
    · cases h
    · split at h
      · rename_i h2
        obtain ⟨hm, hz⟩ := unitI_mem h2
        have hlt := setI_count (hr c (by simp) _ hm) hz
        have hr' : InR (setI vals (unitI vals 0 c).1).length l := by rw [setI_length]; exact fun d hd => hr d (by simp [hd])
        obtain ⟨e1, e2, _, e4⟩ := passF_some hr' h
        rw [setI_length] at e1
        exact ⟨e1, by omega, fun _ => .inr (by omega), fun hs => e4 (setI_signs hs _)⟩
      · exact passF_some (fun d hd => hr d (by simp [hd])) h
theorem conflictF_ge : ∀ {n m : Nat} {l : List (List Int)} {vals : List Int}, InR vals.length l → vals.count 0 < n → vals.count 0 < m → conflictF n l vals = conflictF m l vals
  | 0, _, _, _, _, h, _ => absurd h (Nat.not_lt_zero _)
  | _ + 1, 0, _, _, _, _, h => absurd h (Nat.not_lt_zero _)
  | n + 1, m + 1, l, vals, hr, h1, h2 => by
    simp only [conflictF]
    split
    · rfl
    · rename_i v hp
      obtain ⟨e1, _, e3, _⟩ := passF_some hr hp
      have := (e3 rfl).resolve_left (by simp)
      exact conflictF_ge (by rw [e1]; exact hr) (by omega) (by omega)
    · rfl
theorem conflictI_step {l : List (List Int)} {vals : List Int} (hr : InR vals.length l) : conflictI l vals = match passF l vals false with
    | none => true
    | some (v, true) => conflictI l v
    | some (_, false) => false := by
  unfold conflictI
  rw [conflictF]
  split
  · rfl
  · rename_i v hp
    obtain ⟨e1, _, e3, _⟩ := passF_some hr hp
    have := (e3 rfl).resolve_left (by simp)
    exact conflictF_ge (by rw [e1]; exact hr) (by omega) (by omega)
  · rfl

def startI (m : Nat) (c : List Int) : List Int := c.foldl (fun v x => setI v (-x)) (List.replicate m 0)

theorem startI_snoc (m : Nat) (c : List Int) (x : Int) : startI m (c ++ [x]) = setI (startI m c) (-x) := by simp [startI]
theorem startI_length (m : Nat) (c : List Int) : (startI m c).length = m := by
  have : ∀ (c : List Int) (v : List Int), (c.foldl (fun v x => setI v (-x)) v).length = v.length := by
    intro c
    induction c with
    | nil => intro v; rfl
    | cons x c ih => intro v; rw [List.foldl_cons, ih, setI_length]
  unfold startI
  rw [this]; simp
theorem startI_signs (m : Nat) (c : List Int) : Signs (startI m c) := by
  have : ∀ (c : List Int) (v : List Int), Signs v → Signs (c.foldl (fun v x => setI v (-x)) v) := by
    intro c
    induction c with
    | nil => intro v h; exact h
    | cons x c ih => intro v h; exact ih _ (setI_signs h _)
  refine this _ _ (fun v hv => ?_)
  rw [List.mem_replicate] at hv
  omega

end Go.Proofs.Ytpiidgcljlalmaa
