/- Part 38: walks by contracts, and plain laws. -/
import Derived.Test.YtjmignmnlpamjaaGreatVa37
set_option linter.unusedVariables false
set_option linter.unusedSimpArgs false
set_option linter.unusedSectionVars false
set_option maxRecDepth 100000
set_option maxHeartbeats 4000000
namespace Go.Proofs.YtjmignmnlpamjaaGreat
section
open Go.RowKit
theorem ZJ6 {l : List (List Int)} {a : List Int} {k : Nat} (h : k < l.length) : Zd (l.drop k) a = if Zx l[k] a = true then Zd (l.drop (k + 1)) a else match (l[k]).find? fun x => !ZCS a (wrap64 (-x)) with
  | some x => x
  | none => Zd (l.drop (k + 1)) a := by
 rw [List.drop_eq_getElem_cons h]; rfl
theorem ZMa {V : Nat} : ∀ {l : List (List Int)}, WfL V l -> l.flatten.length ≤ V * l.length
 | [], _ => by simp
 | c :: l, h => by
  have h1 := ZMa (l := l) fun d hd => h d (by simp [hd])
  have hc := h c (by simp)
  have h2 := S43.trail_len (V := V) hc.rng (hc.inc.imp fun h => by omega)
  rw [List.flatten_cons, List.length_append, List.length_cons, Nat.mul_add, Nat.mul_one]
  omega
theorem Asn.lits {V : Nat} {a : List Int} (h : Asn V a) : Lits V a := ⟨h.rng, fun x hx q => by
 have hr := h.rng x hx
 obtain ⟨i, hi⟩ := List.mem_iff_getElem?.1 hx
 obtain ⟨j, hj⟩ := List.mem_iff_getElem?.1 q
 obtain ⟨hi1, hi2⟩ := List.getElem?_eq_some_iff.1 hi
 obtain ⟨hj1, hj2⟩ := List.getElem?_eq_some_iff.1 hj
 rcases Nat.lt_trichotomy i j with hij | rfl | hij
 ·have := List.pairwise_iff_getElem.1 h.dis i j hi1 hj1 hij
  rw [hi2, hj2] at this
  exact this (by omega)
 ·rw [hi2] at hj2; omega
 ·have := List.pairwise_iff_getElem.1 h.dis j i hj1 hi1 hij
  rw [hi2, hj2] at this
  exact this (by omega)⟩
theorem ZLC {V : Nat} (hV : V ≤ 4096) {l : List (List Int)} (hl : WfL V l) : ∀ (n : Nat) (b : List Int), ZDC l b ≤ n -> Asn V b -> Asn V (ZAg l b).1 := by
 intro n
 induction n with
 | zero =>
  intro b hn hb
  have h1 : ∀ i x, ZAK 0 l b ≠ some (i, [x]) := fun i x q => by have := ZBF q; omega
  rw [ZBj h1]; exact hb
 | succ n ih =>
  intro b hn hb
  by_cases h1 : ∃ i x, ZAK 0 l b = some (i, [x])
  ·obtain ⟨i, x, hs⟩ := h1
   obtain ⟨_, _, c, hc, ht, ho, _⟩ := ZAh hs
   have hxw : x ∈ ZN c b := by rw [<- ho]; simp
   obtain ⟨hxc, hxn⟩ := Z5.1 hxw
   have hxr := (hl c hc).rng x hxc
   rw [ZC4 hV hxr.2] at hxn
   have hxb : x ∉ b := fun q => by
    have := Zn.2 ⟨x, hxc, q⟩
    rw [this] at ht; cases ht
   have hlt := ZBF hs
   rw [ZCU hs]
   exact ih (b ++ [x]) (by omega) (hb.snoc hxr hxb hxn)
  ·have h2 : ∀ i x, ZAK 0 l b ≠ some (i, [x]) := fun i x q => h1 ⟨i, x, q⟩
   rw [ZBj h2]; exact hb
set_option maxHeartbeats 8000000 in
theorem ZIp (V : Nat) (hV : V ≤ 4096) (l : List (List Int)) (a : List Int) (hw : WfL V l) (hll : l.length ≤ 32768) : Fn Tryz.prog 82 [dS Rows l, dS ZW a] (dI (Zd l a)) := by
 (refine Zb Tryz.func82 rfl rfl ?_; simp only [Tryz.ntmps82, List.length_cons, List.length_nil, Nat.reduceAdd, Nat.reduceSub, List.replicate_succ, List.replicate_zero, List.cons_append, List.nil_append])
 (repeat' (first | (apply WL.opN; exact yF; dsimp only [ZB, z0, z1]) | refine WL.nil ?_ | refine ZA fun Kx hK => ?_ | (refine hK _ _ ?_; clear hK) | refine WC.region ?_ | refine WC.block ?_))
 all_goals try (exfalso; first | contradiction | omega)
 (refine ZP (X := Nat) (fun k => [(5, dI (k : Int)), (4, dA), (6, dA), (7, dA), (8, dA), (9, dA), (10, dA), (11, dA), (12, dA), (13, dA), (14, dA), (15, dA), (16, dA), (17, dA), (18, dA), (19, dA), (20, dA), (21, dA), (22, dA), (23, dA), (24, dA), (25, dA), (26, dA), (27, dA), (28, dA), (29, dA), (30, dA), (31, dA), (32, dA), (33, dA), (34, dA), (35, dA), (36, dA), (37, dA), (38, dA), (39, dA), (40, dA), (41, dA), (42, dA), (43, dA), (44, dA), (45, dA)]) (fun k => []) (fun k => l.length - k) (fun k => k ≤ l.length /\ Zd (l.drop k) a = Zd l a) 0 ?start ?frame0 ?objs0 ?round)
 case start => exact ⟨Nat.zero_le _, rfl⟩
 case frame0 => ((try dsimp only [ZX, z0, z1]); repeat (first | exact LeF.nil | refine ZG (k := ?_)))
 case objs0 => rfl
 case round =>
  rintro k ⟨hk, h2⟩
  dsimp only [ZX, z0, z1]
  by_cases hkl : k < l.length
  ·have hltk : (k : Int) < (l.length : Int) := by omega
   obtain ⟨c, hc⟩ : ∃ c, l[k] = c := ⟨_, rfl⟩
   have hcw : WfC V c := hw c (by rw [<- hc]; exact List.getElem_mem hkl)
   have hcl := S43.trail_len (V := V) hcw.rng (hcw.inc.imp fun h => by omega)
   have ht := ZGL c a
   rw [ZJ6 hkl, hc] at h2
   cases htr : Zx c a with
   | true =>
    rw [htr] at ht
    rw [if_pos htr] at h2
    ((repeat' (first | (apply WL.opN; exact yF; dsimp only [ZB, z0, z1]) | refine WL.nil ?_ | refine ZA fun Kx hK => ?_ | (refine hK _ _ ?_; clear hK) | (refine Kont.skip ?_; clear hK) | refine WC.region ?_ | (apply WL.opN; (focus ((first | (refine Z0 (R := ZW) (_gR := inferInstance) ZB7 hkl hc (OpD.t rfl) (OpD.t rfl)) | (apply SY.call (ht) Tryz.call39; (exact aD)) | ((first | apply SY.move | apply SY.assign | apply SY.lss | apply SY.not) <;> (exact oD)) | ((first | apply SY.add) <;> first | exact oD | omega) | (apply SY.len; (exact oD); (exact nD); (exact uD)) | fail); all_goals infer_instance)); dsimp only [ZB, z0, z1]) | (apply Zj; (exact oD); (with_reducible rfl)) | (apply ZC; (exact oD); all_goals (intro h; try exact xD)) | refine WC.skip ?_ | refine WC.exit ?_ | refine WC.block ?_ | refine ThenD.n ?_)); all_goals (first | ((repeat clear hK); (repeat clear Kx))))
    all_goals try (exfalso; first | contradiction | omega)
    (refine ⟨k + 1, ?_, by first | omega | (simp only; omega), rfl, ?_⟩; rotate_left; ((try dsimp only [ZX, z0, z1]); repeat (first | exact LeF.nil | refine ZG (k := ?_))); (try dsimp only))
    exact ⟨by omega, h2⟩
   | false =>
    rw [htr] at ht
    rw [if_neg (by rw [htr]; decide)] at h2
    (repeat' (first | (apply WL.opN; exact yF; dsimp only [ZB, z0, z1]) | refine WL.nil ?_ | refine ZA fun Kx hK => ?_ | (refine hK _ _ ?_; clear hK) | refine WC.region ?_ | (apply WL.opN; (focus ((first | (refine Z0 (R := ZW) (_gR := inferInstance) ZB7 hkl hc (OpD.t rfl) (OpD.t rfl)) | (apply SY.call (ht) Tryz.call39; (exact aD)) | ((first | apply SY.move | apply SY.assign | apply SY.lss | apply SY.not) <;> (exact oD)) | (apply SY.len; (exact oD); (exact nD); (exact uD)) | fail); all_goals infer_instance)); dsimp only [ZB, z0, z1]) | (apply Zg; (exact oD); (with_reducible rfl)) | (apply ZC; (exact oD); all_goals (intro h; try exact xD)) | refine WC.skip ?_ | refine WC.block ?_))
    all_goals try (exfalso; first | contradiction | omega)
    (refine ZP (X := Nat) (fun j => [(6, dI (j : Int)), (4, dA), (19, dA), (20, dA), (21, dA), (22, dA), (23, dA), (24, dA), (25, dA), (26, dA), (27, dA), (28, dA), (29, dA), (30, dA), (31, dA), (32, dA), (33, dA), (34, dA), (35, dA), (36, dA), (37, dA), (38, dA), (39, dA), (40, dA), (41, dA), (42, dA), (43, dA), (44, dA), (45, dA)]) (fun j => []) (fun j => c.length - j) (fun j => j ≤ c.length /\ (c.drop j).find? (fun x => !ZCS a (wrap64 (-x))) = c.find? (fun x => !ZCS a (wrap64 (-x)))) 0 ?start ?frame0 ?objs0 ?round)
    case start => exact ⟨Nat.zero_le _, rfl⟩
    case frame0 => ((try dsimp only [ZX, z0, z1]); repeat (first | exact LeF.nil | refine ZG (k := ?_)))
    case objs0 => rfl
    case round =>
     rintro j ⟨hj, g2⟩
     dsimp only [ZX, z0, z1]
     by_cases hjl : j < c.length
     ·have hltj : (j : Int) < (c.length : Int) := by omega
      obtain ⟨x, hx⟩ : ∃ x, c[j] = x := ⟨_, rfl⟩
      have hxr := hcw.rng x (by rw [<- hx]; exact List.getElem_mem hjl)
      have hh := ZEn a (-x)
      rw [List.drop_eq_getElem_cons hjl, hx, List.find?_cons, ZC4 hV hxr.2] at g2
      cases hha : ZCS a (-x) with
      | false =>
       rw [hha] at hh g2
       ((repeat' (first | (apply WL.opN; exact yF; dsimp only [ZB, z0, z1]) | refine WL.nil ?_ | refine ZA fun Kx hK => ?_ | (refine hK _ _ ?_; clear hK) | refine WC.region ?_ | (apply WL.opN; (focus ((first | (refine Z0 (R := ZW) (_gR := inferInstance) ZB7 hkl hc (OpD.t rfl) (OpD.t rfl)) | (refine Z0 (R := RI) (_gR := inferInstance) elI hjl hx (OpD.t rfl) (OpD.t rfl)) | (exact SY.neg (OpD.t rfl) (by omega)) | (apply SY.call (hh) Tryz.call84; (exact aD)) | ((first | apply SY.move | apply SY.assign | apply SY.lss | apply SY.not) <;> (exact oD)) | (apply SY.len; (exact oD); (exact nD); (exact uD)) | fail); all_goals infer_instance)); dsimp only [ZB, z0, z1]) | (apply ZC; (exact oD); all_goals (intro h; try exact xD)) | (apply ZL; (exact oD); all_goals (intro h; try exact xD)) | refine WC.skip ?_ | refine WC.ret ?_ | refine WC.block ?_ | refine ThenD.r ?_ | refine InBlockD.r ?_)); all_goals (first | ((repeat clear hK); (repeat clear Kx))))
       all_goals try (exfalso; first | contradiction | omega)
       (refine ⟨trivial, _, rfl, ?_⟩; refine ZBP ?_)
       rw [<- h2, <- g2]; rfl
      | true =>
       rw [hha] at hh g2
       ((repeat' (first | (apply WL.opN; exact yF; dsimp only [ZB, z0, z1]) | refine WL.nil ?_ | refine ZA fun Kx hK => ?_ | (refine hK _ _ ?_; clear hK) | refine WC.region ?_ | (apply WL.opN; (focus ((first | (refine Z0 (R := ZW) (_gR := inferInstance) ZB7 hkl hc (OpD.t rfl) (OpD.t rfl)) | (refine Z0 (R := RI) (_gR := inferInstance) elI hjl hx (OpD.t rfl) (OpD.t rfl)) | (exact SY.neg (OpD.t rfl) (by omega)) | (apply SY.call (hh) Tryz.call84; (exact aD)) | ((first | apply SY.move | apply SY.assign | apply SY.lss | apply SY.not) <;> (exact oD)) | ((first | apply SY.add) <;> first | exact oD | omega) | (apply SY.len; (exact oD); (exact nD); (exact uD)) | fail); all_goals infer_instance)); dsimp only [ZB, z0, z1]) | (apply ZC; (exact oD); all_goals (intro h; try exact xD)) | (apply ZL; (exact oD); all_goals (intro h; try exact xD)) | refine WC.skip ?_ | refine WC.block ?_ | refine ThenD.n ?_)); all_goals (first | ((repeat clear hK); (repeat clear Kx))))
       all_goals try (exfalso; first | contradiction | omega)
       (refine ⟨j + 1, ?_, by first | omega | (simp only; omega), rfl, ?_⟩; rotate_left; ((try dsimp only [ZX, z0, z1]); repeat (first | exact LeF.nil | refine ZG (k := ?_))); (try dsimp only))
       exact ⟨by omega, g2⟩
     ·have hltj : ¬ (j : Int) < (c.length : Int) := by omega
      obtain rfl : j = c.length := by omega
      rw [List.drop_length] at g2
      rw [<- g2] at h2
      ((repeat' (first | (apply WL.opN; exact yF; dsimp only [ZB, z0, z1]) | refine WL.nil ?_ | refine ZA fun Kx hK => ?_ | (refine hK _ _ ?_; clear hK) | (refine Kont.skip ?_; clear hK) | refine WC.region ?_ | (apply WL.opN; (focus ((first | (refine Z0 (R := ZW) (_gR := inferInstance) ZB7 hkl hc (OpD.t rfl) (OpD.t rfl)) | ((first | apply SY.move | apply SY.assign | apply SY.lss | apply SY.not) <;> (exact oD)) | ((first | apply SY.add) <;> first | exact oD | omega) | (apply SY.len; (exact oD); (exact nD); (exact uD)) | fail); all_goals infer_instance)); dsimp only [ZB, z0, z1]) | (apply ZC; (exact oD); all_goals (intro h; try exact xD)) | refine WC.exit ?_ | refine ThenD.n ?_)); all_goals (first | ((repeat clear hK); (repeat clear Kx))))
      all_goals try (exfalso; first | contradiction | omega)
      (refine ⟨k + 1, ?_, by first | omega | (simp only; omega), rfl, ?_⟩; rotate_left; ((try dsimp only [ZX, z0, z1]); repeat (first | exact LeF.nil | refine ZG (k := ?_))); (try dsimp only))
      exact ⟨by omega, h2⟩
  ·have hltk : ¬ (k : Int) < (l.length : Int) := by omega
   obtain rfl : k = l.length := by omega
   rw [List.drop_length] at h2
   ((repeat' (first | (apply WL.opN; exact yF; dsimp only [ZB, z0, z1]) | refine WL.nil ?_ | refine ZA fun Kx hK => ?_ | (refine hK _ _ ?_; clear hK) | (refine Kont.skip ?_; clear hK) | refine WC.region ?_ | (apply WL.opN; (focus ((first | ((first | apply SY.move | apply SY.assign | apply SY.lss | apply SY.not) <;> (exact oD)) | (apply SY.len; (exact oD); (exact nD); (exact uD)) | fail); all_goals infer_instance)); dsimp only [ZB, z0, z1]) | (apply ZC; (exact oD); all_goals (intro h; try exact xD)) | refine WC.ret ?_ | refine WC.exit ?_)); all_goals (first | ((repeat clear hK); (repeat clear Kx))))
   all_goals try (exfalso; first | contradiction | omega)
   (refine ⟨trivial, _, rfl, ?_⟩; refine ZBP ?_)
   exact h2
set_option maxHeartbeats 8000000 in
theorem ZFc (V : Nat) (hV : V ≤ 14) (l : List (List Int)) (hw : WfL V l) (hll : l.length ≤ 32768) : ∀ (n : Nat) (a : List Int), Asn V a -> ZGR V a < n -> Fn Tryz.prog 36 [dS Rows l, dS ZW a] (dT [dS ZW ((Zu n l a).getD []), dB (Zu n l a).isSome]) := by
 intro n
 induction n with
 | zero => intro a _ h; exact absurd h (Nat.not_lt_zero _)
 | succ n ih =>
  intro a ha hn
  have hV' : V ≤ 4096 := by omega
  obtain ⟨all, u1, u2, u3, u4, u5⟩ := ZDH hV' hw _ a (Nat.le_refl _) ha.lits
  have hal : Asn V all := by have := ZLC hV' hw _ a (Nat.le_refl _) ha; rwa [u1] at this
  have hall := hal.len
  have hfl := ZMa hw
  have hfl2 : V * l.length ≤ 14 * 32768 := Nat.mul_le_mul hV hll
  have hal2 := ha.len
  have hu := ZLB l a (by omega)
  rw [u1] at hu
  generalize ZBr (ZAK 0 l all) = k at u1 hu
  by_cases hc : k ≥ 0
  ·have e : Zu (n + 1) l a = none := by unfold Zu; rw [u1]; exact if_pos hc
   rw [e]
   (refine ZAM Tryz.func36 rfl rfl ?_; simp only [Tryz.ntmps36, List.length_cons, List.length_nil, Nat.reduceAdd, Nat.reduceSub, List.replicate_succ, List.replicate_zero, List.cons_append, List.nil_append])
   ((repeat' (first | (apply WL.opN; exact yF; dsimp only [ZB, z0, z1]) | refine WL.nil ?_ | refine ZA fun Kx hK => ?_ | (refine hK _ _ ?_; clear hK) | refine WC.region ?_ | (apply WL.opN; (focus ((first | (apply SY.call (hu) Tryz.call81; (exact aD)) | ((first | apply SY.move | apply SY.assign | apply SY.geq | apply SY.eql) <;> (exact oD)) | (apply SY.extract; (exact oD); rfl) | fail); all_goals infer_instance)); dsimp only [ZB, z0, z1]) | (apply ZC; (exact oD); all_goals (intro h; try exact xD)) | refine WC.ret ?_ | refine ThenD.r ?_)); all_goals (first | ((repeat clear hK); (repeat clear Kx))))
   all_goals try (exfalso; first | contradiction | omega)
   (refine ⟨trivial, ⟨_, rfl, ?_⟩, _, rfl, ?_⟩ <;> exact fD)
  ·have hbr := ZIp V hV' l all hw hll
   by_cases hb : Zd l all = 0
   ·have e : Zu (n + 1) l a = some all := by unfold Zu; rw [u1]; simp only; rw [if_neg hc, if_pos hb]
    rw [e]
    rw [hb] at hbr
    (refine ZAM Tryz.func36 rfl rfl ?_; simp only [Tryz.ntmps36, List.length_cons, List.length_nil, Nat.reduceAdd, Nat.reduceSub, List.replicate_succ, List.replicate_zero, List.cons_append, List.nil_append])
    ((repeat' (first | (apply WL.opN; exact yF; dsimp only [ZB, z0, z1]) | refine WL.nil ?_ | refine ZA fun Kx hK => ?_ | (refine hK _ _ ?_; clear hK) | refine WC.region ?_ | (apply WL.opN; (focus ((first | (apply SY.call (hu) Tryz.call81; (exact aD)) | (apply SY.call (hbr) Tryz.call82; (exact aD)) | ((first | apply SY.move | apply SY.assign | apply SY.geq | apply SY.eql) <;> (exact oD)) | (apply SY.extract; (exact oD); rfl) | fail); all_goals infer_instance)); dsimp only [ZB, z0, z1]) | (apply ZC; (exact oD); all_goals (intro h; try exact xD)) | refine WC.skip ?_ | refine WC.ret ?_ | refine ThenD.r ?_)); all_goals (first | ((repeat clear hK); (repeat clear Kx))))
    all_goals try (exfalso; first | contradiction | omega)
    (refine ⟨trivial, ⟨_, rfl, ?_⟩, _, rfl, ?_⟩ <;> exact fD)
   ·obtain ⟨b1, b2, b3⟩ := ZDj hV' hw hb
    obtain ⟨o1, o2⟩ := ZMi b1 b2 b3
    have o3 := ZIS (V := V) u2
    have e : Zu (n + 1) l a = match Zu n l (all ++ [Zd l all]) with | some o => some o | none => Zu n l (all ++ [-Zd l all]) := by
     conv => lhs; unfold Zu
     rw [u1]; simp only; rw [if_neg hc, if_neg hb, ZC4 hV' b1.2]
     cases Zu n l (all ++ [Zd l all]) <;> rfl
    have i1 := ih (all ++ [Zd l all]) (hal.snoc b1 b2 b3) (by omega)
    have i2 := ih (all ++ [-Zd l all]) (hal.snoc (x := -Zd l all) ⟨by omega, by rw [Int.natAbs_neg]; exact b1.2⟩ b3 (by rw [Int.neg_neg]; exact b2)) (by omega)
    generalize Zd l all = b at *
    have w1 := ZIb all b (by omega)
    have w2 := ZIb all (-b) (by omega)
    rw [e]
    cases h1 : Zu n l (all ++ [b]) with
    | some o =>
     rw [h1] at i1
     have i1' : Fn Tryz.prog 36 [dS Rows l, dS ZW (all ++ [b])] (dT [dS ZW o, dB true]) := i1
     (refine ZAM Tryz.func36 rfl rfl ?_; simp only [Tryz.ntmps36, List.length_cons, List.length_nil, Nat.reduceAdd, Nat.reduceSub, List.replicate_succ, List.replicate_zero, List.cons_append, List.nil_append])
     ((repeat' (first | (apply WL.opN; exact yF; dsimp only [ZB, z0, z1]) | refine WL.nil ?_ | refine ZA fun Kx hK => ?_ | (refine hK _ _ ?_; clear hK) | refine WC.region ?_ | (apply WL.opN; (focus ((first | (apply SY.call (hu) Tryz.call81; (exact aD)) | (apply SY.call (hbr) Tryz.call82; (exact aD)) | (apply SY.call (w1) Tryz.call83; (exact aD)) | (apply SY.call (i1') Tryz.call36; (exact aD)) | ((first | apply SY.move | apply SY.assign | apply SY.geq | apply SY.eql) <;> (exact oD)) | (apply SY.extract; (exact oD); rfl) | fail); all_goals infer_instance)); dsimp only [ZB, z0, z1]) | (apply Zj; (exact oD); (with_reducible rfl)) | (apply ZC; (exact oD); all_goals (intro h; try exact xD)) | refine WC.skip ?_ | refine WC.ret ?_ | refine ThenD.r ?_)); all_goals (first | ((repeat clear hK); (repeat clear Kx))))
     all_goals try (exfalso; first | contradiction | omega)
     (refine ⟨trivial, ⟨_, rfl, ?_⟩, _, rfl, ?_⟩ <;> exact fD)
    | none =>
     rw [h1] at i1
     have i1' : Fn Tryz.prog 36 [dS Rows l, dS ZW (all ++ [b])] (dT [dS ZW [], dB false]) := i1
     (refine ZAM Tryz.func36 rfl rfl ?_; simp only [Tryz.ntmps36, List.length_cons, List.length_nil, Nat.reduceAdd, Nat.reduceSub, List.replicate_succ, List.replicate_zero, List.cons_append, List.nil_append])
     ((repeat' (first | (apply WL.opN; exact yF; dsimp only [ZB, z0, z1]) | refine WL.nil ?_ | refine ZA fun Kx hK => ?_ | (refine hK _ _ ?_; clear hK) | refine WC.region ?_ | (apply WL.opN; (focus ((first | (apply SY.call (hu) Tryz.call81; (exact aD)) | (apply SY.call (hbr) Tryz.call82; (exact aD)) | (exact SY.neg (OpD.t rfl) (by omega)) | (apply SY.call w1 Tryz.call83; exact ArgsD.cons (OpD.t rfl) (ArgsD.cons (OpD.t rfl) ArgsD.nil)) | (apply SY.call w2 Tryz.call83; exact ArgsD.cons (OpD.t rfl) (ArgsD.cons (OpD.t rfl) ArgsD.nil)) | (apply SY.call i1' Tryz.call36; exact ArgsD.cons (OpD.t rfl) (ArgsD.cons (OpD.t rfl) ArgsD.nil)) | (apply SY.call i2 Tryz.call36; exact ArgsD.cons (OpD.t rfl) (ArgsD.cons (OpD.t rfl) ArgsD.nil)) | ((first | apply SY.move | apply SY.assign | apply SY.geq | apply SY.eql) <;> (exact oD)) | (apply SY.extract; (exact oD); rfl) | fail); all_goals infer_instance)); dsimp only [ZB, z0, z1]) | (apply Zg; (exact oD); (with_reducible rfl)) | (apply ZC; (exact oD); all_goals (intro h; try exact xD)) | refine WC.skip ?_ | refine WC.ret ?_)); all_goals (first | ((repeat clear hK); (repeat clear Kx))))
     all_goals try (exfalso; first | contradiction | omega)
     (refine ⟨trivial, ⟨_, rfl, ?_⟩, _, rfl, ?_⟩ <;> exact fD)
theorem ZE0 (V : Nat) (hV : V ≤ 14) (l : List (List Int)) (hw : WfL V l) (hll : l.length ≤ 32768) (a : List Int) (ha : Asn V a) : Fn Tryz.prog 13 [dS Rows l, dS ZW a] (dB (Zu (V + 1) l a).isSome) := by
 have hs := ZFc V hV l hw hll (V + 1) a ha (by
  unfold ZGR
  exact Nat.lt_succ_of_le (Nat.le_trans (List.length_filter_le _ _) (by simp)))
 (refine Zb Tryz.func13 rfl rfl ?_; simp only [Tryz.ntmps13, List.length_cons, List.length_nil, Nat.reduceAdd, Nat.reduceSub, List.replicate_succ, List.replicate_zero, List.cons_append, List.nil_append])
 ((repeat' (first | (apply WL.opN; exact yF; dsimp only [ZB, z0, z1]) | refine WL.nil ?_ | refine ZA fun Kx hK => ?_ | (refine hK _ _ ?_; clear hK) | refine WC.region ?_ | (apply WL.opN; (focus ((first | (apply SY.call (hs) Tryz.call36; (exact aD)) | (apply SY.extract; (exact oD); rfl) | fail); all_goals infer_instance)); dsimp only [ZB, z0, z1]) | refine WC.ret ?_)); all_goals (first | ((repeat clear hK); (repeat clear Kx))))
 all_goals try (exfalso; first | contradiction | omega)
 (refine ⟨trivial, _, rfl, ?_⟩; exact fD)
end
section
open Go.RowKit
def ZGg (V : Nat) (a : List Int) : List Int := (List.range V).map fun i : Nat => if ZCS a ((i : Int) + 1) = true then (i : Int) + 1 else -((i : Int) + 1)
theorem ZIs (V : Nat) (a : List Int) : ZGg (V + 1) a = ZGg V a ++ [if ZCS a ((V : Int) + 1) = true then (V : Int) + 1 else -((V : Int) + 1)] := by
 unfold ZGg
 rw [List.range_succ, List.map_append]; rfl
theorem ZJ7 (V : Nat) (a : List Int) : (ZGg V a).length = V := by simp [ZGg]
set_option maxHeartbeats 8000000 in
theorem ZGh (V : Nat) (hV : V ≤ 4096) (a : List Int) : Fn Tryz.prog 37 [dI (V : Int), dS ZW a] (dS ZW (ZGg V a)) := by
 (refine Zb Tryz.func37 rfl rfl ?_; simp only [Tryz.ntmps37, List.length_cons, List.length_nil, Nat.reduceAdd, Nat.reduceSub, List.replicate_succ, List.replicate_zero, List.cons_append, List.nil_append])
 refine ZAH 3 RI ?_
 (repeat' (first | (apply WL.opN; exact yF; dsimp only [ZB, z0, z1]) | refine WL.nil ?_ | refine ZA fun Kx hK => ?_ | (refine hK _ _ ?_; clear hK) | refine WC.region ?_ | refine WC.block ?_))
 all_goals try (exfalso; first | contradiction | omega)
 (refine ZP (X := Nat × Value) (fun x => [(6, dI ((x.1 : Int) + 1)), (5, dX x.2), (7, dA), (8, dA), (9, dA), (10, dA), (11, dA), (12, dA), (13, dA), (14, dA), (15, dA), (16, dA), (17, dA), (18, dA), (19, dA), (20, dA), (21, dA), (22, dA), (23, dA)]) (fun x => ([ZS x.2 3 RI (ZGg x.1 a)])) (fun x => V - x.1) (fun x => x.1 ≤ V) (0, ZCX) ?start ?frame0 ?objs0 ?round)
 case start => exact Nat.zero_le _
 case frame0 => ((try dsimp only [ZX, z0, z1]); repeat (first | exact LeF.nil | refine ZG (k := ?_)))
 case objs0 => rfl
 case round =>
  rintro ⟨i, vo⟩ hi
  simp only at hi
  dsimp only [ZX, z0, z1]
  by_cases hil : i < V
  ·have hlti : (i : Int) + 1 ≤ (V : Int) := by omega
   have hh := ZEn a ((i : Int) + 1)
   have et := ZIs i a
   have hln := ZJ7 i a
   have h8 : ((ZGg i a).length + 1) * 8 ≤ 140737488355328 := by omega
   cases hha : ZCS a ((i : Int) + 1) with
   | true =>
    rw [hha] at hh
    rw [if_pos hha] at et
    ((repeat' (first | (apply WL.opN; exact yF; dsimp only [ZB, z0, z1]) | refine WL.nil ?_ | refine ZA fun Kx hK => ?_ | (refine hK _ _ ?_; clear hK) | refine WC.region ?_ | ((first | apply WL.pushK | apply ZAS); (exact eD); exact OpD.t rfl; (exact oD); (intro _; exact hD); (exact (by simp)); (exact (by simp)); (first | exact ⟨by decide, by decide⟩ | skip); decide; (exact lD); (intro _; dsimp only [ZB, z0, z1]); all_goals (try infer_instance)) | (apply WL.opN; (focus ((first | (apply SY.call (hh) Tryz.call84; (exact aD)) | ((first | apply SY.move | apply SY.assign | apply SY.leq) <;> (exact oD)) | ((first | apply SY.add) <;> first | exact oD | omega) | fail); all_goals infer_instance)); dsimp only [ZB, z0, z1]) | (apply Zj; (exact oD); (with_reducible rfl)) | (apply ZC; (exact oD); all_goals (intro h; try exact xD)) | refine WC.skip ?_ | refine WC.block ?_ | refine ThenD.n ?_)); all_goals (first | ((repeat clear hK); (repeat clear Kx))))
    all_goals try (exfalso; first | contradiction | omega)
    rw [<- et]
    (refine ⟨(i + 1, _), ?_, by first | omega | (simp only; omega), rfl, ?_⟩; rotate_left; ((try dsimp only [ZX, z0, z1]); repeat (first | exact LeF.nil | refine ZG (k := ?_))); (try dsimp only))
    omega
   | false =>
    rw [hha] at hh
    rw [if_neg (by rw [hha]; decide)] at et
    ((repeat' (first | (apply WL.opN; exact yF; dsimp only [ZB, z0, z1]) | refine WL.nil ?_ | refine ZA fun Kx hK => ?_ | (refine hK _ _ ?_; clear hK) | refine WC.region ?_ | ((first | apply WL.pushK | apply ZAS); (exact eD); exact OpD.t rfl; (exact oD); (intro _; exact hD); (exact (by simp)); (exact (by simp)); (first | exact ⟨by decide, by decide⟩ | skip); decide; (exact lD); (intro _; dsimp only [ZB, z0, z1]); all_goals (try infer_instance)) | (apply WL.opN; (focus ((first | (apply SY.call (hh) Tryz.call84; (exact aD)) | (exact SY.neg (OpD.t rfl) (by omega)) | ((first | apply SY.move | apply SY.assign | apply SY.leq) <;> (exact oD)) | ((first | apply SY.add) <;> first | exact oD | omega) | fail); all_goals infer_instance)); dsimp only [ZB, z0, z1]) | (apply Zg; (exact oD); (with_reducible rfl)) | (apply ZC; (exact oD); all_goals (intro h; try exact xD)) | refine WC.skip ?_ | refine WC.block ?_ | refine ThenD.n ?_)); all_goals (first | ((repeat clear hK); (repeat clear Kx))))
    all_goals try (exfalso; first | contradiction | omega)
    rw [<- et]
    (refine ⟨(i + 1, _), ?_, by first | omega | (simp only; omega), rfl, ?_⟩; rotate_left; ((try dsimp only [ZX, z0, z1]); repeat (first | exact LeF.nil | refine ZG (k := ?_))); (try dsimp only))
    omega
  ·have hlti : ¬ (i : Int) + 1 ≤ (V : Int) := by omega
   obtain rfl : i = V := by omega
   (repeat' (first |  (refine WC.only 8 (Halt.go ?_)) | (apply WL.opN; exact yF; dsimp only [ZB, z0, z1]) | refine WL.nil ?_ | refine ZA fun Kx hK => ?_ | (refine hK _ _ ?_; clear hK) | (refine Kont.skip ?_; clear hK) | refine WC.region ?_ | (apply WL.opN; (focus ((first | ((first | apply SY.move | apply SY.assign | apply SY.leq) <;> (exact oD)) | fail); all_goals infer_instance)); dsimp only [ZB, z0, z1]) | (apply ZC; (exact oD); all_goals (intro h; try exact xD)) | refine WC.exit ?_))
   all_goals try (exfalso; first | contradiction | omega)
   refine ⟨ZA2 (s := 5) rfl ?_⟩
   dsimp only [z0, z1]
   ((repeat' (first | (apply WL.opN; exact yF; dsimp only [ZB, z0, z1]) | refine WL.nil ?_ | (refine hK _ _ ?_; clear hK) | refine WC.region ?_ | refine WC.ret ?_)); all_goals (first | ((repeat clear hK); (repeat clear Kx))))
   all_goals try (exfalso; first | contradiction | omega)
   (refine ⟨trivial, _, rfl, ?_⟩; exact fD)
set_option maxHeartbeats 8000000 in
theorem ZHn (l : List (List Int)) (ks : List Int) (hkr : ∀ k ∈ ks, 0 ≤ k /\ k < l.length) (hkl : ks.length ≤ 32768) : Fn Tryz.prog 46 [dS Rows l, dS ZW ks] (dS Rows (Ze l ks)) := by
 (refine Zb Tryz.func46 rfl rfl ?_; simp only [Tryz.ntmps46, List.length_cons, List.length_nil, Nat.reduceAdd, Nat.reduceSub, List.replicate_succ, List.replicate_zero, List.cons_append, List.nil_append])
 refine ZAH 25 ZW ?_
 (repeat' (first | (apply WL.opN; exact yF; dsimp only [ZB, z0, z1]) | refine WL.nil ?_ | refine ZA fun Kx hK => ?_ | (refine hK _ _ ?_; clear hK) | refine WC.region ?_ | refine WC.block ?_))
 all_goals try (exfalso; first | contradiction | omega)
 (refine ZP (X := Nat × Value) (fun x => [(6, dI (x.1 : Int)), (5, dX x.2), (7, dA), (8, dA), (9, dA), (10, dA), (11, dA), (12, dA), (13, dA), (14, dA), (15, dA), (16, dA), (17, dA), (18, dA), (19, dA), (20, dA), (21, dA), (22, dA)]) (fun x => ([ZS x.2 25 ZW (Ze l (ks.take x.1))])) (fun x => ks.length - x.1) (fun x => x.1 ≤ ks.length) (0, ZCX) ?start ?frame0 ?objs0 ?round)
 case start => exact Nat.zero_le _
 case frame0 => ((try dsimp only [ZX, z0, z1]); repeat (first | exact LeF.nil | refine ZG (k := ?_)))
 case objs0 => rfl
 case round =>
  rintro ⟨i, vo⟩ hi
  simp only at hi
  dsimp only [ZX, z0, z1]
  by_cases hil : i < ks.length
  ·have hlti : (i : Int) < (ks.length : Int) := by omega
   obtain ⟨k, hk⟩ : ∃ k, ks[i] = k := ⟨_, rfl⟩
   obtain ⟨q1, q2⟩ := hkr k (by rw [<- hk]; exact List.getElem_mem hil)
   have hkn : k.toNat < l.length := by omega
   have hkc : (k.toNat : Int) = k := by omega
   have et : Ze l (ks.take (i + 1)) = Ze l (ks.take i) ++ [l.getD (ks[i]).toNat []] := by
    unfold Ze
    rw [List.take_succ_eq_append_getElem hil, List.map_append]; rfl
   have hgd : l.getD k.toNat [] = l[k.toNat] := by rw [List.getD_eq_getElem?_getD, List.getElem?_eq_getElem hkn]; rfl
   rw [hk, hgd] at et
   have hcln : (Ze l (ks.take i)).length = i := by rw [ZBN, List.length_take]; omega
   have h24 : ((Ze l (ks.take i)).length + 1) * 24 ≤ 140737488355328 := by omega
   ((repeat' (first | (apply WL.opN; exact yF; dsimp only [ZB, z0, z1]) | refine WL.nil ?_ | refine ZA fun Kx hK => ?_ | (refine hK _ _ ?_; clear hK) | refine WC.region ?_ | ((first | apply WL.pushK | apply ZAS); (exact eD); exact OpD.t rfl; (exact oD); (intro _; exact hD); (exact (by simp)); (exact (by simp)); (first | exact ⟨by decide, by decide⟩ | skip); decide; (exact lD); (intro _; dsimp only [ZB, z0, z1]); all_goals (try infer_instance)) | (apply WL.opN; (focus ((first | (refine Z0 (R := RI) (_gR := inferInstance) elI hil hk (OpD.t rfl) (OpD.t rfl)) | (refine ZMV (R := ZW) (_gR := inferInstance) ZB7 (OpD.t rfl) (OpD.t rfl) k.toNat hkc.symm hkn) | ((first | apply SY.move | apply SY.assign | apply SY.lss) <;> (exact oD)) | ((first | apply SY.add) <;> first | exact oD | omega) | (apply SY.len; (exact oD); (exact nD); (exact uD)) | fail); all_goals infer_instance)); dsimp only [ZB, z0, z1]) | (apply ZC; (exact oD); all_goals (intro h; try exact xD)) | refine WC.skip ?_ | refine WC.block ?_ | refine ThenD.n ?_)); all_goals (first | ((repeat clear hK); (repeat clear Kx))))
   all_goals try (exfalso; first | contradiction | omega)
   rw [<- et]
   (refine ⟨(i + 1, _), ?_, by first | omega | (simp only; omega), rfl, ?_⟩; rotate_left; ((try dsimp only [ZX, z0, z1]); repeat (first | exact LeF.nil | refine ZG (k := ?_))); (try dsimp only))
   omega
  ·have hlti : ¬ (i : Int) < (ks.length : Int) := by omega
   obtain rfl : i = ks.length := by omega
   rw [List.take_length]
   (repeat' (first |  (refine WC.only 6 (Halt.go ?_)) | (apply WL.opN; exact yF; dsimp only [ZB, z0, z1]) | refine WL.nil ?_ | refine ZA fun Kx hK => ?_ | (refine hK _ _ ?_; clear hK) | (refine Kont.skip ?_; clear hK) | refine WC.region ?_ | (apply WL.opN; (focus ((first | ((first | apply SY.move | apply SY.assign | apply SY.lss) <;> (exact oD)) | (apply SY.len; (exact oD); (exact nD); (exact uD)) | fail); all_goals infer_instance)); dsimp only [ZB, z0, z1]) | (apply ZC; (exact oD); all_goals (intro h; try exact xD)) | refine WC.exit ?_))
   all_goals try (exfalso; first | contradiction | omega)
   refine ⟨ZA2 (s := 5) rfl ?_⟩
   dsimp only [z0, z1]
   ((repeat' (first | (apply WL.opN; exact yF; dsimp only [ZB, z0, z1]) | refine WL.nil ?_ | (refine hK _ _ ?_; clear hK) | refine WC.region ?_ | refine WC.ret ?_)); all_goals (first | ((repeat clear hK); (repeat clear Kx))))
   all_goals try (exfalso; first | contradiction | omega)
   (refine ⟨trivial, _, rfl, ?_⟩; exact fD)
end
end Go.Proofs.YtjmignmnlpamjaaGreat
