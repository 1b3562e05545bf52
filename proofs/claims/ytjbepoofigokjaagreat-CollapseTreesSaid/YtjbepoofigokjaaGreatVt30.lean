/-
  Part 30 of the texts that the claims of this seat lean on: walks of the program's functions by contracts over symbolic frames, and plain laws of what they compute. No condition.
-/
import Derived.Ground.NamesProg
import Derived.Ground.SlsfProg
import Derived.Shelf.SlSortCmp.WholeK
import Derived.Test.YtjbepoofigokjaaGreatProg
import Derived.Test.YtjbepoofigokjaaGreatVt11
import Derived.Test.YtjbepoofigokjaaGreatVt15
import Derived.Test.YtjbepoofigokjaaGreatVt19
import Derived.Test.YtjbepoofigokjaaGreatVt23
import Derived.Test.YtjbepoofigokjaaGreatVt27
import Derived.Test.YtjbepoofigokjaaGreatVt28
import Derived.Test.YtjbepoofigokjaaGreatVt29
set_option linter.unusedVariables false
set_option linter.unusedSimpArgs false
set_option linter.unusedSectionVars false
namespace Go.Proofs.YtjbepoofigokjaaGreat
open Go.RowKit
set_option linter.unusedSimpArgs false

set_option maxHeartbeats 2000000
set_option maxRecDepth 100000
def inN (l : Cx) (s : List Vx) (j : Nat) : List Cl := if s.length = 1 then [] else (((List.range s.length).drop j).filter fun i => decide ((lookM (cntK l) (remV s i)).getD 0 = 1)).map fun i => (remV s i, s)
theorem inN_zero (l : Cx) (s : List Vx) : inN l s 0 = freeV l s := rfl
theorem inN_one {l : Cx} {s : List Vx} (h : s.length = 1) (j : Nat) : inN l s j = [] := if_pos h
theorem inN_end {l : Cx} {s : List Vx} {j : Nat} (h : s.length ≤ j) : inN l s j = [] := by
  unfold inN
  split
  · rfl
  · rw [List.drop_eq_nil_of_le (by rw [List.length_range]; exact h)]; rfl
theorem inN_step {l : Cx} {s : List Vx} {j : Nat} (h : j < s.length) (h1 : s.length ≠ 1) : inN l s j = (if (lookM (cntK l) (remV s j)).getD 0 = 1 then [(remV s j, s)] else []) ++ inN l s (j + 1) := by
  unfold inN
  rw [if_neg h1, if_neg h1, List.drop_eq_getElem_cons (by rw [List.length_range]; exact h), List.getElem_range]
  by_cases hc : (lookM (cntK l) (remV s j)).getD 0 = 1
  · rw [if_pos hc, List.filter_cons_of_pos (by simpa using hc)]; rfl
  · rw [if_neg hc, List.filter_cons_of_neg (by simpa using hc)]; rfl
theorem cnt_ok {l : Cx} (G : GoodX l) : ∀ p ∈ cntK l, okK p.1 := fun p hp => by
  have h := lookM_keys.2 (List.mem_map_of_mem (f := (·.1)) hp)
  rw [cntK_look] at h
  by_cases hx : p.1 ∈ offsC l
  · obtain ⟨s, hs, ht⟩ := List.mem_flatMap.1 hx
    exact ok_key (offs_chk (G.2.2.1 s hs) _ ht)
  · rw [if_neg hx] at h; cases h
theorem rem_chk {s : List Vx} (hs : chkV s = 0) {j : Nat} (hj : j < s.length) (h1 : s.length ≠ 1) : chkV (remV s j) = 0 :=
  (face_good hs (k := s.length - 1) (by omega) ((subsV_mem _ _ _).2 ⟨remV_sub s j, remV_len hj⟩)).1
set_option maxHeartbeats 8000000 in
theorem free1_e (l : Cx) (G : GoodX l) (v1 v2 : Value) : SeqE Tryz.prog 118 [v1, v2] [hKnow v1 (dP 1 true (dS Cpx l)), hKnow v2 (dP 1 false (dS (MapR kvK RI) (cntK l)))] (fun x => dS Col x) (freeP l) := ⟨fun lb J E hY js hj => by
  (refine CallC.intro0 Tryz.func118 rfl rfl (fun hp => ?_); simp only [Tryz.ntmps118, List.length_cons, List.length_nil, List.length_append, List.length_map, Nat.reduceAdd, Nat.reduceSub, List.replicate_succ, List.replicate_zero, List.cons_append, List.nil_append, List.map_cons, List.map_nil, List.append_assoc])
  refine WC.use (d := dP 1 true (dS Cpx l)) 1 rfl (List.mem_append_right _ (.head _)) ?_
  refine WC.use (d := dP 1 false (dS (MapR kvK RI) (cntK l))) 2 rfl (List.mem_append_right _ (.tail _ (.head _))) ?_
  dsimp only [z0, z1]
  obtain ⟨hq, hhq⟩ : ∃ hq, hq = hKnow v1 (dP 1 true (dS Cpx l)) :: hKnow v2 (dP 1 false (dS (MapR kvK RI) (cntK l))) :: hp := ⟨_, rfl⟩
  rw [← hhq]
  have hnd := cntK_keys l
  have hok := cnt_ok G
  have hll := G.1
  (repeat' (first | ((first | apply WL.opN | apply WD.opN); exact yF; dsimp only [setD, z0, z1]) | refine WL.nil ?_ | refine WC.seqK fun Kx hK => ?_ | (refine hK _ _ ?_; clear hK) | refine WC.region ?_ | ((first | apply WL.opG | apply WD.op); (focus (first | exact wN | (apply SYG.yes; (exact wY); ((first | (apply SY.len; (exact oD); (exact nD); (exact uD)) | (apply SY.fldC cpxT; exact OpD.t rfl) | fail); all_goals infer_instance)))); dsimp only [setD, z0, z1]) | refine WC.block ?_))
  (refine WC.loopU (X := Nat × List Cl × List HObj) (fun x => [(11, dI (x.1 : Int)), (5, dA), (6, dA), (7, dA), (12, dA), (13, dA), (14, dA), (15, dA), (16, dA), (17, dA), (18, dA), (19, dA), (20, dA), (21, dA), (22, dA), (23, dA), (24, dA), (25, dA), (26, dA), (27, dA), (28, dA), (29, dA), (30, dA), (31, dA), (32, dA), (33, dA), (34, dA), (35, dA), (36, dA), (37, dA), (38, dA), (39, dA), (40, dA), (41, dA)]) (fun x => (x.2.2 ++ hq)) (fun x => l.length - x.1) (fun x => x.1 ≤ l.length ∧ J x.2.1 x.2.2 ∧ x.2.1 ++ (l.drop x.1).flatMap (freeV l) = freeP l) (0, [], js) ?start ?frame0 ?objs0 ?round)
  case start => exact ⟨Nat.zero_le _, hj, rfl⟩
  case frame0 => ((try dsimp only [upds, z0, z1]); repeat (first | exact LeF.nil | refine LeF.co (k := ?_)))
  case objs0 => rfl
  case round =>
    rintro ⟨i, dn, js1⟩ ⟨q1, q2, q3⟩
    simp only at q1 q2 q3
    dsimp only [upds, z0, z1]
    by_cases hi : i < l.length
    · have hgi := G.2.2.1 _ (List.getElem_mem hi)
      obtain ⟨p1, p2⟩ := chk_len hgi
      rw [List.drop_eq_getElem_cons hi, List.flatMap_cons] at q3
      (repeat' (first | ((first | apply WL.opN | apply WD.opN); exact yF; dsimp only [setD, z0, z1]) | refine WL.nil ?_ | refine WC.seqK fun Kx hK => ?_ | (refine hK _ _ ?_; clear hK) | refine WC.region ?_ | ((first | apply WL.opG | apply WD.op); (focus (first | exact wN | (apply SYG.yes; (exact wY); ((first | ((first | apply SY.move | apply SY.assign | apply SY.lss | apply SY.eql | apply SY.not) <;> (exact oD)) | (apply SY.len; (exact oD); (exact nD); (exact uD)) | (apply SY.ix; (exact eD); (exact oD); (exact oD); exact kD) | fail); all_goals infer_instance)))); dsimp only [setD, z0, z1]) | (apply WC.condD; (exact oD); all_goals (intro h; try exact xD)) | refine WC.skip ?_ | refine WC.block ?_))
      (refine WC.loopU (X := Nat × List Cl × List HObj) (fun y => [(17, dI (y.1 : Int)), (6, dA), (7, dA), (18, dA), (19, dA), (20, dA), (21, dA), (22, dA), (23, dA), (24, dA), (25, dA), (26, dA), (27, dA), (28, dA), (29, dA), (30, dA), (31, dA), (32, dA), (33, dA), (34, dA), (35, dA), (36, dA), (37, dA), (38, dA), (39, dA), (40, dA)]) (fun y => (y.2.2 ++ hq)) (fun y => l[i].length - y.1) (fun y => y.1 ≤ l[i].length ∧ J y.2.1 y.2.2 ∧ y.2.1 ++ (inN l l[i] y.1 ++ (l.drop (i + 1)).flatMap (freeV l)) = freeP l) (0, dn, js1) ?start ?frame0 ?objs0 ?round)
      case start => exact ⟨Nat.zero_le _, q2, by rw [inN_zero]; exact q3⟩
      case frame0 => ((try dsimp only [upds, z0, z1]); repeat (first | exact LeF.nil | refine LeF.co (k := ?_)))
      case objs0 => rfl
      case round =>
        rintro ⟨j, dm, js2⟩ ⟨r1, r2, r3⟩
        simp only at r1 r2 r3
        dsimp only [upds, z0, z1]
        by_cases hj' : j < l[i].length
        · by_cases h1 : l[i].length = 1
          · ((repeat' (first | ((first | apply WL.opN | apply WD.opN); exact yF; dsimp only [setD, z0, z1]) | refine WL.nil ?_ | refine WC.seqK fun Kx hK => ?_ | (refine hK _ _ ?_; clear hK) | (refine Kont.skip ?_; clear hK) | refine WC.region ?_ | ((first | apply WL.opG | apply WD.op); (focus (first | exact wN | (apply SYG.yes; (exact wY); ((first | ((first | apply SY.move | apply SY.assign | apply SY.lss | apply SY.eql | apply SY.not) <;> (exact oD)) | ((first | apply SY.add) <;> first | exact oD | omega) | (apply SY.len; (exact oD); (exact nD); (exact uD)) | fail); all_goals infer_instance)))); dsimp only [setD, z0, z1]) | (apply WC.condD; (exact oD); all_goals (intro h; try exact xD)) | refine WC.skip ?_ | refine WC.exit ?_ | refine WC.block ?_ | refine ThenD.n ?_)); all_goals (first | ((repeat clear hK); (repeat clear Kx))))
            all_goals first | (exfalso; omega) | skip
            (refine ⟨(j + 1, dm, js2), ?_, by first | omega | (simp only; omega), rfl, ?_⟩; rotate_left; ((try dsimp only [upds, z0, z1]); repeat (first | exact LeF.nil | refine LeF.co (k := ?_))); (try dsimp only))
            exact ⟨by show j + 1 ≤ _; omega, r2, by rw [inN_one h1] at r3 ⊢; exact r3⟩
          · have hck := rem_chk hgi hj' h1
            have c1 := without32_p l[i] j hj' (by omega)
            have c2 := of32_p (remV l[i] j) (chk_len hck).2
            have c3 := cloneV_p l[i] (by omega)
            have hkk := ok_key hck
            rw [inN_step hj' h1] at r3
            by_cases hc : (lookM (cntK l) (remV l[i] j)).getD 0 = 1
            · rw [if_pos hc] at r3
              have hlk := fun (ops : Array Oper) (hp : List HObj) (fr : List Dat) (dst : Option Tmp) (ty : TypeId) (ps : String) (af : Array Edge) (g : Option (Nat × Bool)) (x y : Operand) (hx : OpD fr x (dS (MapR kvK RI) (cntK l))) (hy : OpD fr y (dX (kvK (remV l[i] j)))) => SY.lookR (ops := ops) (hp := hp) (dst := dst) (ty := ty) (ps := ps) (af := af) (g := g) (a0 := (0 : Int)) mapT_cnt2 keyT_K2 hx hy isX hkk hok hnd (fun _ _ => rfl)
              rw [hc] at hlk
              have hlen : dm.length < (freeP l).length := by rw [← r3]; simp only [List.length_append, List.length_cons]; omega
              ((repeat' (first |  (apply I.WC.drawTail 11; kernel_rfl; kernel_rfl; simp only [List.take_succ_cons, List.take_zero, List.drop_succ_cons, List.drop_zero]) | ((first | apply WL.opN | apply WD.opN); exact yF; dsimp only [setD, z0, z1]) | refine WL.nil ?_ | refine WD.nil ?_ | refine WC.seqK fun Kx hK => ?_ | (refine hK _ _ ?_; clear hK) | refine WC.region ?_ |  (refine I.WL.yieldG (pre := dm) (y := (remV l[i] j, l[i])) rfl rfl hY hlen r2 (OpD.t rfl) (OpD.t rfl) fun b js3 hj3 => ?_; dsimp only [setD, z0, z1]; refine I.WL.opG (.inl ⟨want_yes rfl rfl rfl rfl, SY.not (OpD.t rfl)⟩) ?_; dsimp only [setD, z0, z1]; refine I.WL.op rfl (SY.pickT (OpD.t rfl) rfl (OpD.t rfl)) ?_; dsimp only [setD, z0, z1]; refine I.WL.nil ?_; cases b <;> simp only [Bool.not_true, Bool.not_false] at hj3 ⊢) | ((first | apply WL.opG | apply WD.op); (focus (first | exact wN | (apply SYG.yes; (exact wY); ((first | (apply SY.call (c1) Tryz.call90; (exact aD)) | (apply SY.load; exact tyCnt2; exact OpD.t rfl) | (apply SY.call (c2) Tryz.call119; (exact aD)) | (apply SY.call (c3) Tryz.call89; (exact aD)) | (refine hlk _ _ _ _ _ _ _ _ _ _ (OpD.t rfl) (OpD.t rfl)) | ((first | apply SY.move | apply SY.assign | apply SY.lss | apply SY.eql | apply SY.not) <;> (exact oD)) | ((first | apply SY.add) <;> first | exact oD | omega) | (apply SY.len; (exact oD); (exact nD); (exact uD)) | (apply SY.mkP colT <;> exact OpD.t rfl) | fail); all_goals infer_instance)))); dsimp only [setD, z0, z1]) | ((first | refine WL.caseP rfl rfl rfl (fun h => ?_) (fun h => ?_) | refine WL.caseN rfl rfl rfl (fun h => ?_) (fun h => ?_) | refine WL.caseB rfl rfl rfl (fun h => ?_) (fun h => ?_) | refine WD.caseP rfl rfl rfl (fun h => ?_) (fun h => ?_) | refine WD.caseN rfl rfl rfl (fun h => ?_) (fun h => ?_) | refine WD.caseB rfl rfl rfl (fun h => ?_) (fun h => ?_)) <;> (first | (exfalso; first | omega | contradiction) | (dsimp only [z0, z1]))) | (apply WC.condT; (exact oD); (with_reducible rfl)) | (apply WC.condF; (exact oD); (with_reducible rfl)) | (apply WC.condD; (exact oD); all_goals (intro h; try exact xD)) | refine WC.skip ?_ | refine WC.ret ?_ | refine WC.block ?_ | refine ThenD.n ?_ | refine ThenD.r ?_ | refine InBlockD.r ?_)); all_goals (first | ((repeat clear hK); (repeat clear Kx))))
              · refine ⟨trivial, js3 ++ [_, _], by rw [hhq]; simp, js3, .inr ⟨dm, (remV l[i] j, l[i]), inN l l[i] (j + 1) ++ (l.drop (i + 1)).flatMap (freeV l), ?_, by simpa using hj3⟩, rfl⟩
                exact r3.symm.trans (by simp)
              · (refine ⟨(j + 1, dm ++ [(remV l[i] j, l[i])], js3), ?_, by first | omega | (simp only; omega), rfl, ?_⟩; rotate_left; ((try dsimp only [upds, z0, z1]); repeat (first | exact LeF.nil | refine LeF.co (k := ?_))); (try dsimp only))
                exact ⟨by show j + 1 ≤ _; omega, by simpa using hj3, r3.symm.symm ▸ (by simp)⟩
            · rw [if_neg hc, List.nil_append] at r3
              have hlk := fun (ops : Array Oper) (hp : List HObj) (fr : List Dat) (dst : Option Tmp) (ty : TypeId) (ps : String) (af : Array Edge) (g : Option (Nat × Bool)) (x y : Operand) (hx : OpD fr x (dS (MapR kvK RI) (cntK l))) (hy : OpD fr y (dX (kvK (remV l[i] j)))) => SY.lookR (ops := ops) (hp := hp) (dst := dst) (ty := ty) (ps := ps) (af := af) (g := g) (a0 := (0 : Int)) mapT_cnt2 keyT_K2 hx hy isX hkk hok hnd (fun _ _ => rfl)
              generalize (lookM (cntK l) (remV l[i] j)).getD 0 = n at *
              ((repeat' (first |  (apply I.WC.drawTail 11; kernel_rfl; kernel_rfl; simp only [List.take_succ_cons, List.take_zero, List.drop_succ_cons, List.drop_zero]) | ((first | apply WL.opN | apply WD.opN); exact yF; dsimp only [setD, z0, z1]) | refine WL.nil ?_ | refine WD.nil ?_ | refine WC.seqK fun Kx hK => ?_ | (refine hK _ _ ?_; clear hK) | refine WC.region ?_ |  (refine I.WL.opG (d := dX undef) (.inr ⟨want_notT rfl rfl rfl rfl, rfl⟩) ?_; dsimp only [setD, z0, z1]) |  (refine I.WL.op rfl (SY.pickF (OpD.t rfl) rfl OpD.b) ?_; dsimp only [setD, z0, z1]; refine I.WL.nil ?_) | ((first | apply WL.opG | apply WD.op); (focus (first | exact wN | (apply SYG.yes; (exact wY); ((first | (apply SY.call (c1) Tryz.call90; (exact aD)) | (apply SY.load; exact tyCnt2; exact OpD.t rfl) | (apply SY.call (c2) Tryz.call119; (exact aD)) | (refine hlk _ _ _ _ _ _ _ _ _ _ (OpD.t rfl) (OpD.t rfl)) | ((first | apply SY.move | apply SY.assign | apply SY.lss | apply SY.eql | apply SY.not) <;> (exact oD)) | ((first | apply SY.add) <;> first | exact oD | omega) | (apply SY.len; (exact oD); (exact nD); (exact uD)) | fail); all_goals infer_instance)))); dsimp only [setD, z0, z1]) | ((first | refine WL.caseP rfl rfl rfl (fun h => ?_) (fun h => ?_) | refine WL.caseN rfl rfl rfl (fun h => ?_) (fun h => ?_) | refine WL.caseB rfl rfl rfl (fun h => ?_) (fun h => ?_) | refine WD.caseP rfl rfl rfl (fun h => ?_) (fun h => ?_) | refine WD.caseN rfl rfl rfl (fun h => ?_) (fun h => ?_) | refine WD.caseB rfl rfl rfl (fun h => ?_) (fun h => ?_)) <;> (first | (exfalso; first | omega | contradiction) | (dsimp only [z0, z1]))) | (apply WC.condF; (exact oD); (with_reducible rfl)) | (apply WC.condD; (exact oD); all_goals (intro h; try exact xD)) | refine WC.skip ?_ | refine WC.block ?_ | refine ThenD.n ?_)); all_goals (first | ((repeat clear hK); (repeat clear Kx))))
              all_goals first | (exfalso; omega) | skip
              (refine ⟨(j + 1, dm, js2), ?_, by first | omega | (simp only; omega), rfl, ?_⟩; rotate_left; ((try dsimp only [upds, z0, z1]); repeat (first | exact LeF.nil | refine LeF.co (k := ?_))); (try dsimp only))
              exact ⟨by show j + 1 ≤ _; omega, r2, r3⟩
        · rw [inN_end (by omega), List.nil_append] at r3
          ((repeat' (first | ((first | apply WL.opN | apply WD.opN); exact yF; dsimp only [setD, z0, z1]) | refine WL.nil ?_ | refine WC.seqK fun Kx hK => ?_ | (refine hK _ _ ?_; clear hK) | (refine Kont.skip ?_; clear hK) | refine WC.region ?_ | ((first | apply WL.opG | apply WD.op); (focus (first | exact wN | (apply SYG.yes; (exact wY); ((first | ((first | apply SY.move | apply SY.assign | apply SY.lss | apply SY.eql | apply SY.not) <;> (exact oD)) | ((first | apply SY.add) <;> first | exact oD | omega) | fail); all_goals infer_instance)))); dsimp only [setD, z0, z1]) | (apply WC.condD; (exact oD); all_goals (intro h; try exact xD)) | refine WC.exit ?_ | refine ThenD.n ?_)); all_goals (first | ((repeat clear hK); (repeat clear Kx))))
          all_goals first | (exfalso; omega) | skip
          (refine ⟨(i + 1, dm, js2), ?_, by first | omega | (simp only; omega), rfl, ?_⟩; rotate_left; ((try dsimp only [upds, z0, z1]); repeat (first | exact LeF.nil | refine LeF.co (k := ?_))); (try dsimp only))
          exact ⟨by show i + 1 ≤ _; omega, r2, r3⟩
    · rw [List.drop_eq_nil_of_le (by omega), List.flatMap_nil, List.append_nil] at q3
      subst q3
      ((repeat' (first | refine WL.nil ?_ | refine WC.seqK fun Kx hK => ?_ | (refine hK _ _ ?_; clear hK) | refine WC.region ?_ | ((first | apply WL.opG | apply WD.op); (focus (first | exact wN | (apply SYG.yes; (exact wY); ((first | ((first | apply SY.move | apply SY.assign | apply SY.lss | apply SY.eql | apply SY.not) <;> (exact oD)) | fail); all_goals infer_instance)))); dsimp only [setD, z0, z1]) | (apply WC.condD; (exact oD); all_goals (intro h; try exact xD)) | refine WC.exit ?_ | refine ThenD.x ?_ | refine InBlockD.x ?_)); all_goals (first | ((repeat clear hK); (repeat clear Kx))))
      all_goals first | (exfalso; omega) | skip
      exact ⟨trivial, js1 ++ [_, _], by rw [hhq]; simp, js1, .inl q2, rfl⟩⟩
end Go.Proofs.YtjbepoofigokjaaGreat
namespace Go.Proofs.YtjbepoofigokjaaGreat.M
open Go.RowKit
set_option linter.unusedSimpArgs false

set_option maxHeartbeats 2000000
section
variable {P : Program} {ops : Array Oper} {hp : List HObj} {fr : List Dat} {d : Dat} {Q : Post} {rest : List Oper}
variable {dst : Option Tmp} {ty : TypeId} {ps : String} {af : Array Edge} {g : Option (Nat × Bool)} {T : TypeId} (V : ColT P T)
include V
theorem SY.fldP0 {α β : Type} {R : Rel α} {S : Rel β} {_gR : Good R} {_gS : Good S} {x : Operand} {p : α × β} (hx : OpD fr x (dP 2 true (dS (R2 R S) p))) : SY P ops hp { dst := dst, op := .fieldAddr T x 0, type := ty, pos := ps, after := af, guard := g } fr (dP 1 false (dS R p.1)) := SY.val fun {I w a} ho => by
  obtain ⟨b, off, u, h1, ⟨hb, cs, k1, k0, k2, k3, k4⟩, v0, v1, hu, q0, q1, q2, q3⟩ := hx.get (by simp [Op.operands]) ho
  simp only [if_true] at k4
  rw [k4] at hu
  have hcs : cs = [v0, v1] := by injection hu with hu; exact List.toArray_inj hu
  subst hcs
  refine ⟨_, ?_, b, off + 0, v0, rfl, ⟨hb, [v0], rfl, Nat.one_pos, by simp [q0], fun j c hc => ?_, rfl⟩, q2⟩
  · unfold execOp
    simp only [h1, Sem.run_bind, V.fld0, Result.andThen_ok, Sem.run_pure]
  · have hj : j = 0 := by have := (List.getElem?_eq_some_iff.1 hc).1; simpa using this
    subst hj
    cases hc
    exact k3 0 _ rfl
end
theorem colCmp_p (x y : Cl) : Fn Tryz.prog 80 [dS Col x, dS Col y] (dI (cmpL x.1 y.1)) := by
  (refine Fn.intro1 Tryz.func80 rfl rfl ?_; simp only [Tryz.ntmps80, List.length_cons, List.length_nil, Nat.reduceAdd, Nat.reduceSub, List.replicate_succ, List.replicate_zero, List.cons_append, List.nil_append])
  ((repeat' (first | (apply WL.opG; (focus (apply SYG.yes; (exact want_none rfl); (first | (apply SY.assign <;> (exact oD)) | (apply SY.load; (exact tD); (exact OpD.t rfl))))); dsimp only [setD, z0, z1]) | refine WL.nil ?_ | refine WC.seqK fun Kx hK => ?_ | (refine hK _ _ ?_; clear hK) | refine WC.region ?_ | (apply WL.opG; (focus (apply SYG.yes; (exact want_none rfl); ((first | (apply SY.call (cmpL_p x.1 y.1) Tryz.call66; (exact aD)) | (apply SY.fldP0 colT; exact OpD.t rfl) | (apply SY.fldP1 colT; exact OpD.t rfl) | (apply SY.box; (exact oD); (exact hD)) | fail); all_goals infer_instance))); dsimp only [setD, z0, z1]) | refine WC.ret ?_)); all_goals (first | ((repeat clear hK); (repeat clear Kx))))
  all_goals ((refine ⟨trivial, _, rfl, ?_⟩; refine FinD.i ?_); try rfl)
theorem colCmp_x {I : Nat → Prop} {w : World} {u v : Value} {x y : Cl} (hu : Col I w u x) (hv : Col I w v y) : Calls Tryz.prog 80 #[u, v] w fun e w' => e = .returned (.int .i64 (cmpL x.1 y.1)) ∧ ∃ q os', w' = Go.Sort.grow (w.drewN q) os' := by
  have := (colCmp_p x y).out I w [u, v] rfl (fun i d hd => by
    match i with
    | 0 => cases hd; exact hu
    | 1 => cases hd; exact hv
    | i + 2 => simp at hd)
  exact this.mono fun e w' ⟨v, h1, h2, h3⟩ => ⟨by rw [h1]; exact congrArg _ h3, h2.grow⟩
end Go.Proofs.YtjbepoofigokjaaGreat.M
namespace Go.Proofs
open Go.Shelf
def Tryz.sortK_ren : Go.Shelf.Ren := ⟨fun | 6 => 79 | 15 => 121 | 14 => 120 | 28 => 147 | 29 => 148 | 20 => 139 | 21 => 140 | 22 => 141 | 23 => 142 | 24 => 143 | 25 => 144 | 26 => 145 | 27 => 146 | 46 => 171 | 47 => 172 | 48 => 173 | 49 => 174 | 50 => 175 | 57 => 182 | n => n, fun | 22 => 27 | 24 => 36 | 25 => 118 | 3 => 3 | 39 => 155 | 0 => 0 | 53 => 181 | 55 => 183 | 4 => 4 | 46 => 175 | 45 => 174 | 50 => 110 | 5 => 5 | 9 => 9 | 66 => 197 | 70 => 201 | 76 => 208 | 77 => 95 | n => n, fun | n => n⟩
theorem Tryz.sortK : Go.Proofs.SlLaysF0.n6 Tryz.prog Tryz.sortK_ren := {
  mixed := by kernel_rfl
  f6 := ⟨Tryz.f79.name, by decide, Tryz.func79.trans (congrArg some (by kernel_rfl))⟩
  f14 := ⟨Tryz.f120.name, by decide, Tryz.func120.trans (congrArg some (by kernel_rfl))⟩
  f15 := Tryz.func121.trans (congrArg some (by kernel_rfl))
  f20 := ⟨Tryz.f139.name, by decide, Tryz.func139.trans (congrArg some (by kernel_rfl))⟩
  f21 := ⟨Tryz.f140.name, by decide, Tryz.func140.trans (congrArg some (by kernel_rfl))⟩
  f22 := ⟨Tryz.f141.name, by decide, Tryz.func141.trans (congrArg some (by kernel_rfl))⟩
  f23 := ⟨Tryz.f142.name, by decide, Tryz.func142.trans (congrArg some (by kernel_rfl))⟩
  f24 := ⟨Tryz.f143.name, by decide, Tryz.func143.trans (congrArg some (by kernel_rfl))⟩
  f25 := ⟨Tryz.f144.name, by decide, Tryz.func144.trans (congrArg some (by kernel_rfl))⟩
  f26 := ⟨Tryz.f145.name, by decide, Tryz.func145.trans (congrArg some (by kernel_rfl))⟩
  f27 := ⟨Tryz.f146.name, by decide, Tryz.func146.trans (congrArg some (by kernel_rfl))⟩
  f28 := Tryz.func147.trans (congrArg some (by kernel_rfl))
  f29 := Tryz.func148.trans (congrArg some (by kernel_rfl))
  f46 := ⟨Tryz.f171.name, by decide, Tryz.func171.trans (congrArg some (by kernel_rfl))⟩
  f47 := Tryz.func172.trans (congrArg some (by kernel_rfl))
  f48 := Tryz.func173.trans (congrArg some (by kernel_rfl))
  f49 := ⟨Tryz.f174.name, by decide, Tryz.func174.trans (congrArg some (by kernel_rfl))⟩
  f50 := ⟨Tryz.f175.name, by decide, Tryz.func175.trans (congrArg some (by kernel_rfl))⟩
  f57 := ⟨Tryz.f182.name, by decide, Tryz.func182.trans (congrArg some (by kernel_rfl))⟩
  t0 := Tryz.underlying0
  a0 := Tryz.isAgg0
  z0 := Tryz.sizeOf0
  v0 := Tryz.zeroValue0
  t3 := Tryz.underlying3
  a3 := Tryz.isAgg3
  z3 := Tryz.sizeOf3
  v3 := Tryz.zeroValue3
  t4 := Tryz.underlying4
  a4 := Tryz.isAgg4
  z4 := Tryz.sizeOf4
  v4 := Tryz.zeroValue4
  t5 := Tryz.underlying5
  a5 := Tryz.isAgg5
  z5 := Tryz.sizeOf5
  v5 := Tryz.zeroValue5
  t9 := Tryz.underlying9
  a9 := Tryz.isAgg9
  z9 := Tryz.sizeOf9
  v9 := Tryz.zeroValue9
  t22 := Tryz.underlying27
  a22 := Tryz.isAgg27
  z22 := Tryz.sizeOf27
  v22 := Tryz.zeroValue27
  t25 := Tryz.underlying118
  a25 := Tryz.isAgg118
  z25 := Tryz.sizeOf118
  v25 := Tryz.zeroValue118
  t39 := Tryz.underlying155
  a39 := Tryz.isAgg155
  z39 := Tryz.sizeOf155
  v39 := Tryz.zeroValue155
  t45 := Tryz.underlying174
  a45 := Tryz.isAgg174
  z45 := Tryz.sizeOf174
  v45 := Tryz.zeroValue174
  t46 := Tryz.underlying175
  a46 := Tryz.isAgg175
  z46 := Tryz.sizeOf175
  v46 := Tryz.zeroValue175
  t50 := Tryz.underlying110
  a50 := Tryz.isAgg110
  z50 := Tryz.sizeOf110
  v50 := Tryz.zeroValue110
  t53 := Tryz.underlying181
  a53 := Tryz.isAgg181
  z53 := Tryz.sizeOf181
  v53 := Tryz.zeroValue181
  t55 := Tryz.underlying183
  a55 := Tryz.isAgg183
  z55 := Tryz.sizeOf183
  v55 := Tryz.zeroValue183
  t66 := Tryz.underlying197
  a66 := Tryz.isAgg197
  z66 := Tryz.sizeOf197
  v66 := Tryz.zeroValue197
  t70 := Tryz.underlying201
  a70 := Tryz.isAgg201
  z70 := Tryz.sizeOf201
  v70 := Tryz.zeroValue201
  t76 := Tryz.underlying208
  a76 := Tryz.isAgg208
  z76 := Tryz.sizeOf208
  v76 := Tryz.zeroValue208
  t77 := Tryz.underlying95
  a77 := Tryz.isAgg95
  z77 := Tryz.sizeOf95
  v77 := Tryz.zeroValue95 }
end Go.Proofs
namespace Go.Proofs.YtjbepoofigokjaaGreat
open Go.RowKit Go.Sort Go.Shelf
theorem flat_listK {α : Type} [Inhabited α] {enc : α → List Value} (he : ∀ x, (enc x).length = 2) {d : Array α} : (flatK enc 2 d).toList = (d.toList.map enc).flatten := by
  apply List.ext_getElem?
  intro t
  have hl : ∀ u ∈ d.toList.map enc, u.length = 2 := fun u hu => by obtain ⟨x, _, rfl⟩ := List.mem_map.1 hu; exact he x
  have hlen : ((d.toList.map enc).flatten).length = d.size * 2 := by
    rw [List.length_flatten]
    have : (List.map List.length (d.toList.map enc)) = List.replicate d.size 2 := by
      rw [List.eq_replicate_iff]
      refine ⟨by simp, fun b hb => ?_⟩
      obtain ⟨u, hu, rfl⟩ := List.mem_map.1 hb
      exact hl u hu
    rw [this]; simp
  by_cases ht : t < d.size * 2
  · have h1 : t / 2 < (d.toList.map enc).length := by simp; omega
    have h2 : t % 2 < 2 := Nat.mod_lt _ (by decide)
    have hel : t % 2 < (enc (d[t / 2]'(by omega))).length := by rw [he]; exact h2
    have h3 : ((d.toList.map enc)[t / 2]'h1)[t % 2]? = some ((enc (d[t / 2]'(by omega)))[t % 2]'hel) := by
      rw [List.getElem_map, Array.getElem_toList]
      exact List.getElem?_eq_getElem hel
    have h4 := flatten_get hl h1 h3
    have h5 : t / 2 * 2 + t % 2 = t := by omega
    rw [h5] at h4
    rw [h4]
    have h6 := get_flatK enc 2 d t ht
    rw [Array.getElem?_toList]
    have h7 : t < (flatK enc 2 d).size := by simp; omega
    rw [getElem!_pos _ t h7, getElem!_pos d (t / 2) (by omega), getElem!_pos _ (t % 2) hel] at h6
    rw [Array.getElem?_eq_getElem h7, h6]
  · rw [List.getElem?_eq_none (by simp; omega), List.getElem?_eq_none (by omega)]
section
variable {ops : Array Oper} {hp : List HObj} {fr : List Dat} {Q : Post} {rest : List Oper} {dst : Option Tmp} {ty : TypeId} {ps : String} {af : Array Edge}
set_option maxHeartbeats 2000000 in
theorem WL.sortK {x : Operand} {v : Value} {e : TypeId} {xs : List Cl} {ats : Array TypeId} (hx : OpD fr x (dX v)) (hlen : xs.length < 4611686018427387904)
    (h : ∀ ys : List Cl, ys.Perm xs → ys.Pairwise (fun a b => ¬ cmpL b.1 a.1 < 0) → WL Tryz.prog ops Q rest (setD fr dst dA) (hRowK v e 2 Col ys :: hp)) :
    WL Tryz.prog ops Q ({ dst := dst, op := .call { callee := .value (.func 79), args := #[x, .func 80], argTypes := ats }, type := ty, pos := ps, after := af, guard := none } :: rest) fr (hRowK v e 2 Col xs :: hp) := by
  refine WL.of fun P0 B w0 w a hh hf => ?_
  have hok := hh.ok (hRowK v e 2 Col xs) (by simp)
  obtain ⟨us, h1, h2, h0, h3, h4⟩ := hok
  have hev : a.eval x = v := hx.ev hf
  obtain ⟨hfl, hv⟩ := h3
  have hrun : (execOp a.eval { dst := dst, op := .call { callee := .value (.func 79), args := #[x, .func 80], argTypes := ats }, type := ty, pos := ps, after := af, guard := none }).run Tryz.prog w = .ok (.enter 79 #[v, .func (.func 80) #[] #[]]) w := by
    unfold execOp
    simp only [resolve]
    have he : (#[x, Operand.func 80] : Array Operand).map a.eval = #[v, .func (.func 80) #[] #[]] := by simp [hev]; rfl
    rw [he]
    simp [Act.eval, Deferred.ofValue, invoke, Tryz.call79]
  by_cases hne : xs = []
  · subst hne
    have hv0 : ∃ p cap, v = .slice p 0 cap := by
      rcases hv with ⟨hv, _⟩ | ⟨g, cap, cur, hv, _⟩
      · exact ⟨_, _, hv⟩
      · exact ⟨_, _, hv⟩
    obtain ⟨p, cap, hv0⟩ := hv0
    have hcon := AnyF.slices_SortFunc_none (P := Tryz.prog) (ρ := Tryz.sortK_ren) Tryz.sortK p cap (.func (.func 80) #[] #[]) w
    change Calls Tryz.prog 79 _ _ _ at hcon
    refine wpList_plain rfl fun K hK => ?_
    unfold Oper.wp
    rw [hrun, hv0]
    refine hcon.mono fun e' w' ⟨he, hw'⟩ => ?_
    subst he
    subst hw'
    exact hK _ _ ((h [] (List.Perm.refl _) List.Pairwise.nil).on hh (hf.put (d := dA) trivial))
  have hpos : 0 < xs.length := List.length_pos_iff.2 hne
  rcases hv with ⟨_, hz⟩ | ⟨g, cap, cur, hv, hB, hg, hc1, hc2, hc3, hc4⟩
  · omega
  have hgb : g < w.heap.size := (Array.getElem?_eq_some_iff.1 hg).1
  let J : Nat → Prop := fun b => Imm P0 B (hRowK v e 2 Col xs :: hp) b ∧ v.ownBlock ≠ some b
  let α := {p : List Value × Cl // p.1.length = 2 ∧ (∀ c ∈ p.1, c.oneCell' = true) ∧ Col J w (.agg p.1.toArray) p.2}
  let at0 : Fin xs.length → α := fun k => ⟨(us[k.1]'(by omega), xs[k.1]), (h2 _ (List.getElem_mem _)).1, (h2 _ (List.getElem_mem _)).2, h4 k.1 (by omega) k.2⟩
  haveI : Inhabited α := ⟨at0 ⟨0, hpos⟩⟩
  let enc : α → List Value := fun p => p.1.1
  have hen : ∀ p : α, (enc p).length = 2 := fun p => p.2.1
  let d : Array α := (List.ofFn at0).toArray
  have hds : d.size = xs.length := by simp [d]
  have hdu : d.toList.map enc = us := by
    apply List.ext_getElem (by simp [d, h1])
    intro k a b
    simp [d, enc, at0]
  have hdx : d.toList.map (fun p => p.1.2) = xs := by
    apply List.ext_getElem (by simp [d])
    intro k a b
    simp [d, at0]
  have hown : v.ownBlock = some g := by rw [hv]; rfl
  have hF : (flatK enc 2 d).toList = us.flatten := by rw [flat_listK hen, hdu]
  have hFs : (flatK enc 2 d).size = xs.length * 2 := by simp [hds]
  have hH : HoldsK enc 2 w g 0 d := holds_of_row hg (by rw [hFs, hF]; exact hc4)
  have hgr : ∀ (d' : Array α) (n : Nat) (os : Array Obj), w.grownBy (sortWorldK enc 2 w g 0 n d' os) (hRowK v e 2 Col xs).blk := fun d' n os => by
    show w.grownBy _ v.ownBlock
    rw [hown]; exact grownBy_sortedF _
  have hmove : ∀ (p : α) (d' : Array α) (n : Nat) (os : Array Obj), Col (fun b => J b ∧ b < w.heap.size) (sortWorldK enc 2 w g 0 n d' os) (.agg p.1.1.toArray) p.1.2 := fun p d' n os =>
    Good.move (Good.bound p.2.2.2) fun k hk hlt => (hgr d' n os).block k hlt fun he => hk.1.2 he.symm
  have hcon := AnyQ.slices_SortFunc Tryz.sortK 2 Tryz.isAgg36 Tryz.sizeOf36 enc hen (fun p => p.2.2.1) (fun p q => cmpL p.1.2.1 q.1.2.1) (swoL fun p : α => p.1.2.1) 80 #[] g 0 cap d w Tryz.call80
    (fun m os dk _ p q => M.colCmp_x (hmove p dk m os) (hmove q dk m os)) hH hgb (by rw [hds]; exact hlen)
  change Calls Tryz.prog 79 _ _ _ at hcon
  refine wpList_plain rfl fun K hK => ?_
  unfold Oper.wp
  rw [hrun]
  have hva : v = .slice (some ⟨g, 0, none⟩) d.size cap := by rw [hds]; exact hv
  rw [← hva] at hcon
  refine hcon.mono fun e' w' ⟨he, d', n, os, hp1, hs, hw'⟩ => ?_
  subst he
  subst hw'
  obtain ⟨q1, _, q3⟩ := hp1
  have hperm : d'.toList.Perm d.toList := by
    have e1 : d'.extract 0 d.size = d' := by rw [← q1]; simp
    have e2 : d.extract 0 d.size = d := by simp
    rw [e1, e2] at q3
    exact q3
  have hys : (d'.toList.map fun p => p.1.2).Perm xs := by
    have := hperm.map (fun p : α => p.1.2)
    rwa [hdx] at this
  have hsort : (d'.toList.map fun p => p.1.2).Pairwise (fun a b => ¬ cmpL b.1 a.1 < 0) := by
    rw [List.pairwise_map, List.pairwise_iff_getElem]
    intro i j hi hj hij
    have hi' : i < d'.size := by simpa using hi
    have hj' : j < d'.size := by simpa using hj
    have := hs i j (Nat.zero_le _) hij (by omega)
    rw [getElem!_pos d' i hi', getElem!_pos d' j hj'] at this
    simpa [ltOf] using this
  have hsz : d'.size = xs.length := by omega
  have hlen' : (d'.toList.map fun p => p.1.2).length = xs.length := by simp; omega
  have hF' : (flatK enc 2 d').toList = (d'.toList.map enc).flatten := flat_listK hen
  have hFs' : (flatK enc 2 d').size = (d'.toList.map fun p => p.1.2).length * 2 := by simp
  have hok : (hRowK v e 2 Col (d'.toList.map fun p => p.1.2)).ok (fun k => Imm P0 B (hRowK v e 2 Col xs :: hp) k ∧ k < w.heap.size) (sortWorldK enc 2 w g 0 n d' os) := by
    refine ⟨d'.toList.map enc, by simp, fun u hu => ?_, by decide, ⟨?_, .inr ⟨g, cap, putCells _root_.id 0 (flatK enc 2 d') cur, ?_, hB, heap_sortedF _ hg, by omega, hc2, by simp [putCells, hc3], ?_⟩⟩, fun k a b => ?_⟩
    · obtain ⟨p, _, rfl⟩ := List.mem_map.1 hu
      exact ⟨p.2.1, p.2.2.1⟩
    · rw [← hF', Array.length_toList, hFs']
    · rw [hlen']; exact hv
    · rw [← hFs', ← hF']
      exact take_putCellsF _ _ (by rw [hFs', hlen', hc3]; exact Nat.mul_le_mul_right _ hc1)
    · have hk : k < d'.toList.length := by simpa using a
      rw [List.getElem_map, List.getElem_map]
      exact Good.weak (hmove d'.toList[k] d' n os) fun b hb => ⟨⟨hb.1.1, hb.2⟩, hb.1.2⟩
  exact hK _ _ ((h _ hys hsort).on (hh.write (hgr d' n os) (.inl rfl) hok) (Fr.put (hf.mono fun _ _ hd => Hp.written (o' := hRowK v e 2 Col (d'.toList.map fun p => p.1.2)) (hgr d' n os) (.inl rfl) hd) (d := dA) trivial))
end
end Go.Proofs.YtjbepoofigokjaaGreat
namespace Go.Proofs.YtjbepoofigokjaaGreat
open Go.RowKit
set_option linter.unusedSimpArgs false

set_option maxHeartbeats 2000000
set_option maxRecDepth 100000
abbrev apK (b : Nat) (xs : List Cl) (hs : List HObj) : Prop := ∃ sv, hs = [hCell b 27 1 false (dX sv), hRowK sv 36 2 Col xs]
theorem shape_Z2 : (dX (.agg #[.slice none 0 0, .slice none 0 0])).Shape 2 true := fun _ _ _ h => by cases (h : _ = _); exact ⟨[.slice none 0 0, .slice none 0 0], rfl, by omega, by simp [Value.oneCell'], rfl, rfl⟩
theorem I.WL.knowRowK {P : Program} {ops : Array Oper} {hp : List HObj} {fr : List Dat} {Q : Post} {rest : List Oper} {α : Type} {R : Rel α} {_gR : Good R} {v : Value} {e : TypeId} {n : Nat} {xs : List α} (hm : hRowK v e n R xs ∈ hp) (h : (∃ a c, v = .slice a xs.length c) → I.WL P ops Q rest fr hp) : I.WL P ops Q rest fr hp := I.WL.of fun _ _ _ _ _ hh hf => by
  obtain ⟨us, h1, h2, h0, ⟨_, hv⟩, h4⟩ := hh.ok _ hm
  refine (h ?_).on hh hf
  rcases hv with ⟨rfl, hz⟩ | ⟨g, cap, cur, rfl, _⟩
  · exact ⟨_, _, by rw [hz]⟩
  · exact ⟨_, _, rfl⟩
set_option maxHeartbeats 8000000 in
theorem appendSeqK_c {gf : FuncId} {lb : List Value} {hk : List HObj} {xs : List Cl} (he : Enters Tryz.prog gf) (hS : SeqC Tryz.prog gf lb hk (fun x => dS Col x) xs) (hl : xs.length ≤ 1000000) :
    CallC Tryz.prog 116 ([dX (.slice none 0 0), dX (.func (.func gf) #[] lb.toArray)] ++ ([] : List Value).map dX) hk (fun d hp2 => ∃ v, d = dX v ∧ hp2 = hRowK v 36 2 Col xs :: hk) := ⟨fun P0 B w0 hp vs W hh hl0 hv => by
  refine (callsIn_wide (n := 0)).1 (callsIn_of_wp_marks Tryz.func116 rfl trivial ?_ rfl)
  refine wpIn_wide.2 ?_
  have hf0 := fr_enter (m := 11) hl0 hv
  have hsz : vs.toArray.size = 2 := by simpa using hl0
  rw [hsz]
  have hnt : Tryz.f116.ntmps = 13 := rfl
  rw [hnt]
  simp only [List.length_cons, List.length_nil, Nat.reduceAdd, Nat.reduceSub, List.replicate_succ, List.replicate_zero, List.cons_append, List.nil_append, List.map_nil] at hf0 ⊢
  refine wp_seq (Code.wp_mono ?_ (WC.on (Q := fun e f q => e = .normal ∧ ∃ b, f = [dX (.slice none 0 0), dX (.func (.func gf) #[] lb.toArray), dX (.pointer (some ⟨b, 0, none⟩)), dX undef, dX (.slice none 0 0), dX undef, dX undef, dX undef, dX undef, dX undef, dX undef, dX undef, dX undef] ∧ q = [hCell b 27 1 false (dX (.slice none 0 0)), hRowK (.slice none 0 0) 36 2 Col []] ++ (hk ++ hp)) ?_ hh hf0))
  rotate_left
  · refine WC.region ?_
    refine WL.nilRowK 36 2 (by decide) Col ?_
    refine WL.boxC (OpD.t rfl) (shape_X rfl) fun b => ?_
    dsimp only [setD, z0, z1]
    refine WL.op rfl (SY.assign OpD.x) (WL.nil ?_)
    exact ⟨rfl, b, rfl, rfl⟩
  rintro e a1 w1 ⟨f1, q1, ⟨rfl, b, rfl, rfl⟩, hh1, hf1⟩
  show Code.wp _ _ _ _ _
  refine wp_seq ?_
  refine wp_seq (Code.wp_mono ?_ (WC.on (Q := fun e f q => e = .normal ∧ f = [dX (.slice none 0 0), dX (.func (.func gf) #[] lb.toArray), dX (.pointer (some ⟨b, 0, none⟩)), dX undef, dX (.slice none 0 0), dX undef, dX (.func (.func gf) #[] lb.toArray), dX undef, dX undef, dX undef, dX undef, dX undef, dX undef] ∧ q = [hCell b 27 1 false (dX (.slice none 0 0)), hRowK (.slice none 0 0) 36 2 Col []] ++ (hk ++ hp)) ?_ hh1 hf1))
  rotate_left
  · refine WC.region ?_
    refine WL.op rfl (SY.move (OpD.t rfl)) (WL.nil ?_)
    exact ⟨rfl, rfl, rfl⟩
  rintro e a2 w2 ⟨f2, q2, ⟨rfl, rfl, rfl⟩, hh2, hf2⟩
  show Code.wp _ _ _ _ _
  refine wp_block ?_
  refine wp_rangeC (hs0 := [_, _]) (hk := hk) (hp := hp) (xs := xs) (D := fun x => dS Col x) (apK b) _ (fun x => [dX (.slice none 0 0), dX (.func (.func gf) #[] lb.toArray), dX (.pointer (some ⟨b, 0, none⟩)), dX undef, dX (.slice none 0 0), dP 2 true (dS Col x), dX (.func (.func gf) #[] lb.toArray), dS Col x, dX undef, dX undef, dX undef, dX undef, dX undef]) hh2 hf2 (OpD.t rfl) he hS ⟨_, rfl⟩ (by repeat (first | exact FixF.nil | apply FixF.x)) ?_ ?_ ?_
  · intro l x q
    refine WR.region rfl (I.WL.alloc tzCo shape_Z2 fun b5 => ?_)
    dsimp only [setD, z0, z1]
    refine I.WL.storeF tyCo rfl (OpD.t rfl) shape_P ?_
    dsimp only [setD, z0, z1]
    exact I.WL.nil ⟨rfl, rfl, rfl⟩
  · rintro l pre x hs q hlt ⟨sv, rfl⟩
    refine WR.block (WR.region rfl ?_)
    refine I.WL.op rfl (SY.loadH tyCos (OpD.t rfl) (.head _)) ?_
    dsimp only [setD, z0, z1, List.cons_append, List.nil_append]
    refine I.WL.op rfl (SY.load tyCo (OpD.t rfl)) ?_
    dsimp only [setD, z0, z1]
    refine I.WL.perm (List.Perm.swap _ _ _) (I.WL.pushK elCo (OpD.t rfl) (OpD.t rfl) (fun _ => shape_P) (by simp) (by simp) (by decide) (by decide) (by omega) fun v' => ?_)
    dsimp only [setD, z0, z1]
    refine I.WL.knowRowK (.head _) fun ⟨ad, c, hv'⟩ => ?_
    refine I.WL.perm (List.Perm.swap _ _ _) (I.WL.storeK tyCos (OpD.t rfl) (OpD.t rfl) (shape_X (by rw [hv']; rfl)) (I.WL.nil ?_))
    exact ⟨rfl, _, ⟨v', rfl⟩, rfl⟩
  · rintro k hs w3 ⟨sv, rfl⟩ hh3 hrd
    show Code.wp _ _ _ _ _
    have hf3 : Fr (Imm P0 B (hObj k (.deferred (some [])) :: ([hCell b 27 1 false (dX sv), hRowK sv 36 2 Col xs] ++ (hk ++ hp)))) w3 { tmps := a2.tmps, defers := [] } _ := ⟨rfl, hf2.size, hrd⟩
    refine wp_seq (wp_region_lit ?_)
    refine wpList_defers rfl (SY.loadH tyCos (OpD.t rfl) (.tail _ (.head _))) hh3 hf3 fun a4 w4 hd4 hh4 hf4 => ?_
    refine wpList_defers rfl (SY.assign (OpD.t rfl)) hh4 hf4 fun a5 w5 hd5 hh5 hf5 => ?_
    refine wpList_nil ?_
    show Code.wp _ _ _ _ _
    refine wp_ret ?_
    show LeavesInM _ _ _ _ _ _ _ _ _
    rw [hd5, hd4, hf2.defers]
    have hK : w5.heap[k]? = some (.deferred (some [])) := hh5.ok (hObj k (.deferred (some []))) (by simp)
    refine ⟨by simp, .inl ⟨_, _, rfl, run_takeDeferred hK, _, results_tmp rfl _ _ _, ?_⟩⟩
    have hh6 := (Hp.putObj (o' := .deferred none) hh5).drop.drop
    exact ⟨_, dX sv, hRowK sv 36 2 Col xs :: hk, rfl, ⟨sv, rfl, rfl⟩, hh6, hf5.rd 4 _ rfl⟩⟩
theorem collectK_c {gf : FuncId} {lb : List Value} {hk : List HObj} {xs : List Cl} (he : Enters Tryz.prog gf) (hS : SeqC Tryz.prog gf lb hk (fun x => dS Col x) xs) (hl : xs.length ≤ 1000000) :
    CallC Tryz.prog 77 ([dX (.func (.func gf) #[] lb.toArray)] ++ ([] : List Value).map dX) hk (fun d hp2 => ∃ v, d = dX v ∧ hp2 = hRowK v 36 2 Col xs :: hk) := by
  (refine CallC.intro Tryz.func77 rfl rfl (fun hp => ?_); simp only [Tryz.ntmps77, List.length_cons, List.length_nil, List.length_append, List.length_map, Nat.reduceAdd, Nat.reduceSub, List.replicate_succ, List.replicate_zero, List.cons_append, List.nil_append, List.map_cons, List.map_nil, List.append_assoc])
  ((repeat' (first | (apply WL.opN; exact yF; dsimp only [setD, z0, z1]) | refine WL.nil ?_ | refine WC.seqK fun Kx hK => ?_ | (refine hK _ _ ?_; clear hK) | refine WC.region ?_ |  (refine WL.callC (caps := []) (appendSeqK_c he hS hl) Tryz.call116 OpD.f (by (exact aD)) ?_; rintro d' hp2 ⟨v, rfl, rfl⟩; dsimp only [setD, z0, z1, List.cons_append, List.nil_append]) | refine WC.ret ?_)); all_goals (first | ((repeat clear hK); (repeat clear Kx))))
  exact ⟨trivial, _, _ :: hk, rfl, rfl, v, rfl, rfl⟩
theorem freeP_len {l : Cx} (G : GoodX l) : (freeP l).length ≤ 32768 := by
  have h : ∀ m : Cx, (∀ s ∈ m, s ∈ l) → (m.flatMap (freeV l)).length ≤ 8 * m.length := fun m => by
    induction m with
    | nil => intro _; exact Nat.zero_le _
    | cons s m ih =>
      intro hm
      have h1 := ih fun t ht => hm t (List.mem_cons_of_mem _ ht)
      have h2 := (chk_len (G.2.2.1 s (hm s (List.mem_cons_self ..)))).2
      have h3 : (freeV l s).length ≤ s.length := by
        unfold freeV
        split
        · exact Nat.zero_le _
        · rw [List.length_map]
          exact Nat.le_trans (List.length_filter_le _ _) (by rw [List.length_range]; exact Nat.le_refl _)
      rw [List.flatMap_cons, List.length_append, List.length_cons]
      omega
  have := h l fun s hs => hs
  have := G.1
  unfold freeP
  omega
end Go.Proofs.YtjbepoofigokjaaGreat
