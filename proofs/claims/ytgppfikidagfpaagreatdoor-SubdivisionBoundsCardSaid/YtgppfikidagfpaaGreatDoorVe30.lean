/-
  Part 30 of the texts that the claims of this seat lean on: walks of the program's functions by contracts over symbolic frames, and plain laws of what they compute. No condition.
-/
import Derived.Test.YtgppfikidagfpaaGreatDoorVe6
import Derived.Test.YtgppfikidagfpaaGreatDoorVe7
import Derived.Test.YtgppfikidagfpaaGreatDoorVe15
import Derived.Test.YtgppfikidagfpaaGreatDoorVe18
import Derived.Test.YtgppfikidagfpaaGreatDoorVe25
import Derived.Test.YtgppfikidagfpaaGreatDoorVe29
set_option linter.unusedVariables false
set_option linter.unusedSimpArgs false
set_option linter.unusedSectionVars false
namespace Go.Proofs.YtgppfikidagfpaaGreatDoor
open Go.RowKit
set_option linter.unusedSimpArgs false

set_option maxHeartbeats 2000000
set_option maxRecDepth 100000
theorem mapT_cnt : MapT Tryz.prog 134 137 3 (.int .i64 0) := ⟨Tryz.underlying134, fun w => by kernel_rfl⟩
theorem tyCnt : TyI Tryz.prog 134 1 false := ⟨by kernel_rfl, Tryz.isAgg134⟩
theorem tzCnt : TyZ Tryz.prog 134 (.map none) := ⟨by kernel_rfl⟩
abbrev vvI (n : Int) : Value := .int .i64 n
abbrev hCnt (b : Nat) (M : CntM) : HObj := hM b kvK vvI M
theorem look_cnt (M : CntM) (f : List Vx) : ((lookM M f).map vvI).getD (.int .i64 0) = .int .i64 ((lookM M f).getD 0) := by cases lookM M f <;> rfl
section
variable {ops : Array Oper} {hp : List HObj} {fr : List Dat} {d : Dat} {Q : Post} {rest : List Oper} {dst : Option Tmp} {ty : TypeId} {ps : String} {af : Array Edge} {g : Option (Nat × Bool)} {b : Nat} {M : CntM} {f : List Vx}
theorem SY.lookCnt {x y : Operand} (hx : OpD fr x (dX (.map (some b)))) (hm : hCnt b M ∈ hp) (hy : OpD fr y (dX (kvK f))) (hf : okK f) (ho : ∀ p ∈ M, okK p.1) (hn : (M.map (·.1)).Nodup) :
    SY Tryz.prog ops hp { dst := dst, op := .lookup 134 x y false, type := ty, pos := ps, after := af, guard := g } fr (dI ((Go.Proofs.YtgppfikidagfpaaGreatDoor.lookM M f).getD 0)) := by
  have h := SY.lookM (dst := dst) (ty := ty) (ps := ps) (af := af) (g := g) (ops := ops) mapT_cnt keyT_K hx hm hy isX hf ho hn
  rw [look_cnt] at h
  exact h
end
theorem look_new {M : CntM} {f : List Vx} (h : ∀ p ∈ M, p.1 ≠ f) : (lookM (M ++ [(f, (0 : Int))]) f).getD 0 = (lookM M f).getD 0 := by
  have h1 := putM_new (v := (0 : Int)) h
  rw [← h1, lookM_putM, if_pos rfl, lookM_none h]; rfl
theorem SY.lookCnt2 {ops : Array Oper} {hp : List HObj} {fr : List Dat} {dst : Option Tmp} {ty : TypeId} {ps : String} {af : Array Edge} {g : Option (Nat × Bool)} {b : Nat} {M : CntM} {f : List Vx} {x y : Operand} (hx : OpD fr x (dX (.map (some b)))) (hne : ∀ p ∈ M, p.1 ≠ f) (hm : hCnt b M ∈ hp ∨ hCnt b (M ++ [(f, (0 : Int))]) ∈ hp) (hy : OpD fr y (dX (kvK f))) (hf : okK f) (ho : ∀ p ∈ M, okK p.1) (hn : (M.map (·.1)).Nodup) :
    SY Tryz.prog ops hp { dst := dst, op := .lookup 134 x y false, type := ty, pos := ps, after := af, guard := g } fr (dI ((Go.Proofs.YtgppfikidagfpaaGreatDoor.lookM M f).getD 0)) := by
  rcases hm with hm | hm
  · exact SY.lookCnt hx hm hy hf ho hn
  · have := SY.lookCnt (dst := dst) (ty := ty) (ps := ps) (af := af) (g := g) (ops := ops) hx hm hy hf (fun p hp => by
      rcases List.mem_append.1 hp with hp | hp
      · exact ho p hp
      · rw [List.mem_singleton.1 hp]; exact hf) (by
      rw [List.map_append, List.nodup_append]
      refine ⟨hn, by simp, fun a ha c hc => ?_⟩
      have : c = f := by simpa using hc
      subst this
      obtain ⟨p, hp, rfl⟩ := List.mem_map.1 ha
      exact hne p hp)
    rwa [look_new hne] at this
theorem cntM_app {o l : Cx} {j : Nat} (h : j < l.length) : cntM (o ++ l.take (j + 1)) = addC (cntM (o ++ l.take j)) l[j] := by
  unfold cntM; rw [take_snoc' h, ← List.append_assoc, List.foldl_append]; rfl
theorem count_le {o : Cx} (f : List Vx) : (lookM (cntM o) f).getD 0 ≤ o.length ∧ 0 ≤ (lookM (cntM o) f).getD 0 := by
  rw [cntM_count]
  have := List.count_le_length (a := f) (l := o)
  omega
theorem bnd1_p (f : List Vx) (M : CntM) (hf : chkV f = 0) (ho : ∀ p ∈ M, okK p.1) (hn : (M.map (·.1)).Nodup) : Fn Tryz.prog 107 ([dS Verts f] ++ [dP 1 false (dS (MapR kvK RI) M)]) (dB (decide ((lookM M f).getD 0 = 1))) := by
  show Fn Tryz.prog 107 [dS Verts f, dP 1 false (dS (MapR kvK RI) M)] _
  (refine Fn.intro1 Tryz.func107 rfl rfl ?_; simp only [Tryz.ntmps107, List.length_cons, List.length_nil, Nat.reduceAdd, Nat.reduceSub, List.replicate_succ, List.replicate_zero, List.cons_append, List.nil_append])
  ((repeat' (first | ((first | apply WL.opN | apply WD.opN); exact yF; dsimp only [setD, z0, z1]) | refine WL.nil ?_ | refine WD.nil ?_ | refine WC.seqK fun Kx hK => ?_ | (refine hK _ _ ?_; clear hK) | refine WC.region ?_ | (apply WC.draw; kernel_rfl; kernel_rfl) | ((first | apply WL.opN | apply WD.opN); (focus ((first | (apply SY.load tyCnt; exact OpD.t rfl) | (apply SY.call (keyed_p _ (len_chk hf)) Tryz.call105; (exact aD)) | (refine SY.lookR (a0 := (0 : Int)) mapT_cnt keyT_K (OpD.t rfl) (OpD.t rfl) isX (ok_key hf) ho hn (fun _ _ => rfl)) | exact yEql | fail); all_goals infer_instance)); dsimp only [setD, z0, z1]) | refine WC.ret ?_)); all_goals (first | ((repeat clear hK); (repeat clear Kx))))
  all_goals (refine ⟨trivial, _, rfl, ?_⟩; exact fD)
theorem cntM_ok {fs : Cx} (h : ∀ f ∈ fs, chkV f = 0) : ∀ p ∈ cntM fs, okK p.1 := fun p hp => ok_key (h _ (((cntM_keys fs).2 _).1 (List.mem_map_of_mem hp)))
theorem cntM_len (fs : Cx) : (cntM fs).length ≤ fs.length := by
  have h := List.Nodup.length_le_of_subset (cntM_keys fs).1 fun x hx => ((cntM_keys fs).2 x).1 hx
  rwa [List.length_map] at h
set_option maxHeartbeats 8000000 in
theorem boundary27_p (l : Cx) : Fn Tryz.prog 46 [dS Cpx l] (dT [dS Cpx (bndP l).1, dI (bndP l).2]) := by
  (refine Fn.introC2 tyC Tryz.func46 rfl rfl ?_; simp only [Tryz.ntmps46, List.length_cons, List.length_nil, Nat.reduceAdd, Nat.reduceSub, List.replicate_succ, List.replicate_zero, List.cons_append, List.nil_append])
  by_cases h0 : chkC l = 0
  · have hg := goodX_iff.1 h0
    have hdim : Fn Tryz.prog 103 [dS Cpx l] (dT [dI (dimC l), dB (sizeP l)]) := by
      have := dimension_p l (fun s hs => Nat.le_trans (hg.short s hs) (by decide))
      rwa [most_dim, pure_size hg.2.2.1] at this
    have hd8 := dimC_le hg.short
    by_cases hp : dimC l < 1 ∨ sizeP l = false
    · have e : bndP l = ([], 15) := by unfold bndP; rw [if_neg (by omega), if_pos hp]
      ((repeat' (first | ((first | apply WL.opN | apply WD.opN); exact yF; dsimp only [setD, z0, z1]) | refine WL.nil ?_ | refine WC.seqK fun Kx hK => ?_ | (refine hK _ _ ?_; clear hK) | refine WC.region ?_ | (apply WL.alloc; (first | exact tzV | exact tzC); (first | exact shape_X rfl | exact shape_XV | exact shape_C0 rfl); (intro _; dsimp only [setD, z0, z1])) | (apply WL.storeF; (exact tD); rfl; (exact oD); (exact hD); dsimp only [setD, z0, z1]) | ((first | apply WL.opG | apply WD.op); (focus (first | exact wN | (apply SYG.yes; (exact wY); ((first | (apply SY.call (check_p _) Tryz.call90; (exact aD)) | (apply SY.call (hdim) Tryz.call103; (exact aD)) | exact yMove | exact yLss | exact yNeq | exact yNot | exact yBuild | exact yPick | exact yExtract | exact yBox | fail); all_goals infer_instance)))); dsimp only [setD, z0, z1]) | ((first | refine WL.caseP rfl rfl rfl (fun h => ?_) (fun h => ?_) | refine WL.caseN rfl rfl rfl (fun h => ?_) (fun h => ?_) | refine WL.caseB rfl rfl rfl (fun h => ?_) (fun h => ?_) | refine WD.caseP rfl rfl rfl (fun h => ?_) (fun h => ?_) | refine WD.caseN rfl rfl rfl (fun h => ?_) (fun h => ?_) | refine WD.caseB rfl rfl rfl (fun h => ?_) (fun h => ?_)) <;> (first | (exfalso; first | omega | contradiction) | (dsimp only [z0, z1]))) | (apply WC.condT; (exact oD); (with_reducible rfl)) | (apply WC.condD; (exact oD); all_goals (intro h; try exact xD)) | (apply WC.condN; (exact oD); all_goals (intro h; try exact xD)) | refine WC.skip ?_ | refine WC.ret ?_ | refine ThenD.r ?_)); all_goals (first | refine WL.id ?_ | ((repeat clear hK); (repeat clear Kx))))
      all_goals first | (rw [e]; (refine ⟨trivial, ⟨_, rfl, ?_⟩, _, rfl, ?_⟩ <;> exact fD); done) | (exfalso; simp_all; done) | (exfalso; omega)
    · have hs1 : sizeP l = true := by
        cases hq : sizeP l with
        | true => rfl
        | false => exact absurd (.inr hq) hp
      have hd1 : 1 ≤ dimC l := by
        have : ¬ dimC l < 1 := fun h => hp (.inl h)
        omega
      obtain ⟨d, hd⟩ : ∃ d : Nat, dimC l = d := ⟨(dimC l).toNat, by omega⟩
      have hlen : ∀ s ∈ l, s.length = d + 1 := fun s hs => by have := pure_len hs1 s hs; omega
      rw [hs1, hd] at hdim
      (repeat' (first | ((first | apply WL.opN | apply WD.opN); exact yF; dsimp only [setD, z0, z1]) | refine WL.nil ?_ | refine WC.seqK fun Kx hK => ?_ | (refine hK _ _ ?_; clear hK) | refine WC.region ?_ |  (refine WL.alloc tzC (shape_C0 rfl) fun b2 => ?_; dsimp only [setD, z0, z1]) |  (refine WL.makeMap kvK vvI fun b => ?_; dsimp only [setD, z0, z1]) |  (refine WL.alloc tzCnt (shape_X rfl) fun b7 => ?_; dsimp only [setD, z0, z1]) |  (refine WL.storeF tyCnt rfl (OpD.t rfl) (shape_X rfl) ?_; dsimp only [setD, z0, z1]) | ((first | apply WL.opG | apply WD.op); (focus (first | exact wN | (apply SYG.yes; (exact wY); ((first | (apply SY.call (check_p _) Tryz.call90; (exact aD)) | (apply SY.call (hdim) Tryz.call103; (exact aD)) | exact yMove | exact yLss | exact yNeq | exact yNot | exact yLen | exact yFieldaddr | exact yPick | exact yExtract | exact yBox | fail); all_goals infer_instance)))); dsimp only [setD, z0, z1]) | ((first | refine WL.caseP rfl rfl rfl (fun h => ?_) (fun h => ?_) | refine WL.caseN rfl rfl rfl (fun h => ?_) (fun h => ?_) | refine WL.caseB rfl rfl rfl (fun h => ?_) (fun h => ?_) | refine WD.caseP rfl rfl rfl (fun h => ?_) (fun h => ?_) | refine WD.caseN rfl rfl rfl (fun h => ?_) (fun h => ?_) | refine WD.caseB rfl rfl rfl (fun h => ?_) (fun h => ?_)) <;> (first | (exfalso; first | omega | contradiction) | (dsimp only [z0, z1]))) | (apply WC.condD; (exact oD); all_goals (intro h; try exact xD)) | (apply WC.condN; (exact oD); all_goals (intro h; try exact xD)) | refine WC.skip ?_ | refine WC.block ?_))
      refine WC.nilRow 22 Verts (WC.perm (List.Perm.swap _ _ _) ?_)
      have hfl := fcsC_len (d := d) hg.short
      have hll := hg.1
      (refine WC.loopU (X := Nat × Value × Cx) (fun x => [(39, dI (x.1 : Int)), (8, dX x.2.1), (3, dA), (10, dA), (11, dA), (12, dA), (14, dA), (40, dA), (41, dA), (42, dA), (43, dA), (44, dA), (45, dA), (46, dA), (47, dA), (48, dA), (49, dA), (50, dA), (51, dA), (52, dA), (53, dA), (54, dA), (55, dA), (56, dA), (57, dA), (58, dA), (59, dA), (60, dA), (61, dA), (62, dA), (63, dA), (64, dA), (65, dA), (66, dA), (67, dA), (68, dA), (69, dA), (70, dA)]) (fun x => (hCnt b (cntM x.2.2) :: hRow x.2.1 22 Verts x.2.2 :: hCell b2 39 1 true (dX (.agg #[.slice none 0 0])) :: [])) (fun x => l.length - x.1) (fun x => x.1 ≤ l.length ∧ x.2.2 = fcsC (l.take x.1) d) (0, .slice none 0 0, []) ?start ?frame0 ?objs0 ?round)
      case start => exact ⟨Nat.zero_le _, rfl⟩
      case frame0 => ((try dsimp only [upds, z0, z1]); repeat (first | exact LeF.nil | refine LeF.co (k := ?_)))
      case objs0 => rfl
      case round =>
        rintro ⟨i, v, o⟩ ⟨h1, h2⟩
        simp only at h1 h2
        have hol : o.length ≤ 2000000 := by have := hfl i h1; rw [← h2] at this; omega
        dsimp only [upds, z0, z1]
        by_cases hil : i < l.length
        · have hgi := hg.2.2.1 _ (List.getElem_mem hil)
          have hF : Fn Tryz.prog 104 [dS Verts l[i], dI (d : Int)] (dT [dS Simps (subsV d l[i]), dI 0]) := by
            have := facesP_p l[i] (d : Int)
            rwa [facesV_good hgi (by omega) (by rw [hlen _ (List.getElem_mem hil)]; omega)] at this
          have hsl : (subsV d l[i]).length ≤ 256 := Nat.le_trans (subsV_len d l[i]) (Nat.pow_le_pow_right (by decide) (len_chk hgi) : 2 ^ l[i].length ≤ 2 ^ 8)
          (repeat' (first | ((first | apply WL.opN | apply WD.opN); exact yF; dsimp only [setD, z0, z1]) | refine WL.nil ?_ | refine WC.seqK fun Kx hK => ?_ | (refine hK _ _ ?_; clear hK) | refine WC.region ?_ | ((first | apply WL.opG | apply WD.op); (focus (first | exact wN | (apply SYG.yes; (exact wY); ((first | (apply SY.call (hF) Tryz.call104; (exact aD)) | exact yLss | exact yNeq | exact yLen | exact yIndexaddr | exact yExtract | fail); all_goals infer_instance)))); dsimp only [setD, z0, z1]) | (apply WC.condD; (exact oD); all_goals (intro h; try exact xD)) | (apply WC.condN; (exact oD); all_goals (intro h; try exact xD)) | refine WC.skip ?_ | refine WC.block ?_))
          (refine WC.loopU (X := Nat) (fun j => [(55, dI (j : Int)), (14, dA), (56, dA), (57, dA), (58, dA), (59, dA), (60, dA), (61, dA), (62, dA), (63, dA), (64, dA), (65, dA), (66, dA)]) (fun j => (hCnt b (cntM (o ++ (subsV d l[i]).take j)) :: hRow v 22 Verts o :: hCell b2 39 1 true (dX (.agg #[.slice none 0 0])) :: [])) (fun j => (subsV d l[i]).length - j) (fun j => j ≤ (subsV d l[i]).length) 0 ?start ?frame0 ?objs0 ?round)
          case start => exact Nat.zero_le _
          case frame0 => ((try dsimp only [upds, z0, z1]); repeat (first | exact LeF.nil | refine LeF.co (k := ?_)))
          case objs0 => simp
          case round =>
            rintro j g1
            dsimp only [upds, z0, z1]
            by_cases hjl : j < (subsV d l[i]).length
            · have hfj := (face_good hgi (by omega) (List.getElem_mem hjl)).1
              have hoj : ∀ f ∈ o ++ (subsV d l[i]).take j, chkV f = 0 := fun f hf => by
                rcases List.mem_append.1 hf with hf | hf
                · rw [h2, fcsC_mem] at hf
                  exact all_good27 (by omega) (fun s hs => hg.2.2.1 s (List.mem_of_mem_take hs)) f hf
                · exact (face_good hgi (by omega) (List.mem_of_mem_take hf)).1
              have hok := cntM_ok hoj
              have hnd := (cntM_keys (o ++ (subsV d l[i]).take j)).1
              have hcb := count_le (o := o ++ (subsV d l[i]).take j) (subsV d l[i])[j]
              rw [List.length_append, List.length_take] at hcb
              have happ := cntM_app (o := o) hjl
              unfold addC at happ
              generalize hMM : cntM (o ++ (subsV d l[i]).take j) = M at *
              by_cases hin : (subsV d l[i])[j] ∈ M.map (·.1)
              · obtain ⟨q, hq, hqv⟩ : ∃ (q : Nat) (h : q < M.length), M[q].1 = (subsV d l[i])[j] := by
                  obtain ⟨p, hp, hpv⟩ := List.mem_map.1 hin
                  obtain ⟨q, hq, rfl⟩ := List.getElem_of_mem hp
                  exact ⟨q, hq, hpv⟩
                ((repeat' (first |  (refine WC.drawM (fun hp' => hCnt b M ∈ hp') 7 1 [(0, false), (1, false), (2, false), (3, false), (4, false), (5, true), (6, false)] [true, true, true, true, true, true, true, false] (by kernel_rfl) (by kernel_rfl) (by kernel_rfl) rfl (.head _) ?_) |  (first | refine WA.one (S := [true, true, true, true, true, true, true, false]) (i := 7) (by kernel_rfl) rfl ?_ | refine WA.nil (S := [true, true, true, true, true, true, true, true]) (by kernel_rfl) ?_) |  (refine WM.writeL rfl (SW.entOld mapT_cnt keyT_K (OpD.t rfl) (OpD.t rfl) isX (ok_key hfj) hok hnd hq hqv (0 : Int) rfl) (fun _ => .head _) fun _ => ?_; dsimp only [setD, z0, z1, List.cons_append, List.nil_append]) | (refine WM.nil ?_) | (apply WM.readL rfl; (focus (intro c hcc; apply SYG.yes; (exact want_none rfl); ((first | (apply SY.load tyCnt; exact OpD.t rfl) | (apply SY.call (keyed_p _ (len_chk hfj)) Tryz.call105; (exact aD)) | (refine SY.lookCnt (OpD.t rfl) hcc (OpD.t rfl) (ok_key hfj) hok hnd) | exact yMove | exact yAdd | exact yExtract | fail); all_goals infer_instance))); dsimp only [setD, z0, z1]) | ((first | apply WL.opN | apply WD.opN); exact yF; dsimp only [setD, z0, z1]) | refine WL.nil ?_ | refine WC.seqK fun Kx hK => ?_ | (refine hK _ _ ?_; clear hK) | refine WC.region ?_ |  (refine WL.entS (u := (lookM M (subsV d l[i])[j]).getD 0 + 1) (OpD.t rfl) (OpD.t rfl) (OpD.t rfl) ⟨fun _ _ _ h => h⟩ hq ?_; dsimp only [setD]) | ((first | apply WL.opG | apply WD.op); (focus (first | exact wN | (apply SYG.yes; (exact wY); ((first | exact yLss | exact yAdd | exact yIndexaddr | fail); all_goals infer_instance)))); dsimp only [setD, z0, z1]) | (apply WC.condD; (exact oD); all_goals (intro h; try exact xD)) | refine WC.skip ?_ | refine WC.block ?_ | refine ThenD.n ?_)); all_goals (first | ((repeat clear hK); (repeat clear Kx))))
                refine ⟨j + 1, ?_, by omega, by rw [happ, ← hqv, putM_set hnd hq], ?_⟩
                rotate_left
                · ((try dsimp only [upds, z0, z1]); repeat (first | exact LeF.nil | refine LeF.co (k := ?_)))
                · omega
              · have hne : ∀ p ∈ M, p.1 ≠ (subsV d l[i])[j] := fun p hp hc => hin (hc ▸ List.mem_map_of_mem hp)
                have hlen' : M.length < (M ++ [((subsV d l[i])[j], (0 : Int))]).length := by simp
                ((repeat' (first |  (refine WC.drawM (fun hp' => hCnt b M ∈ hp' ∨ hCnt b (M ++ [((subsV d l[i])[j], (0 : Int))]) ∈ hp') 7 1 [(0, false), (1, false), (2, false), (3, false), (4, false), (5, true), (6, false)] [true, true, true, true, true, true, true, false] (by kernel_rfl) (by kernel_rfl) (by kernel_rfl) rfl (.inl (.head _)) ?_) |  (first | refine WA.one (S := [true, true, true, true, true, true, true, false]) (i := 7) (by kernel_rfl) rfl ?_ | refine WA.nil (S := [true, true, true, true, true, true, true, true]) (by kernel_rfl) ?_) |  (refine WM.writeL rfl (SW.entNew (0 : Int) rfl mapT_cnt keyT_K (OpD.t rfl) (OpD.t rfl) isX (ok_key hfj) hok hne) (fun _ => .inr (.head _)) fun _ => ?_; dsimp only [setD, z0, z1, List.cons_append, List.nil_append]) | (refine WM.nil ?_) | (apply WM.readL rfl; (focus (intro c hcc; apply SYG.yes; (exact want_none rfl); ((first | (apply SY.load tyCnt; exact OpD.t rfl) | (apply SY.call (keyed_p _ (len_chk hfj)) Tryz.call105; (exact aD)) | (refine SY.lookCnt2 (OpD.t rfl) hne hcc (OpD.t rfl) (ok_key hfj) hok hnd) | exact yMove | exact yAdd | exact yExtract | fail); all_goals infer_instance))); dsimp only [setD, z0, z1]) | ((first | apply WL.opN | apply WD.opN); exact yF; dsimp only [setD, z0, z1]) | refine WL.nil ?_ | refine WC.seqK fun Kx hK => ?_ | (refine hK _ _ ?_; clear hK) | refine WC.region ?_ |  (refine WL.entS (j := M.length) (u := (lookM M (subsV d l[i])[j]).getD 0 + 1) (OpD.t rfl) (OpD.t rfl) (OpD.t rfl) ⟨fun _ _ _ h => h⟩ hlen' ?_; dsimp only [setD]) | ((first | apply WL.opG | apply WD.op); (focus (first | exact wN | (apply SYG.yes; (exact wY); ((first | exact yLss | exact yAdd | exact yIndexaddr | fail); all_goals infer_instance)))); dsimp only [setD, z0, z1]) | (apply WC.condD; (exact oD); all_goals (intro h; try exact xD)) | refine WC.skip ?_ | refine WC.block ?_ | refine ThenD.n ?_)); all_goals (first | ((repeat clear hK); (repeat clear Kx))))
                refine ⟨j + 1, ?_, by omega, by rw [happ, putM_new hne]; simp, ?_⟩
                rotate_left
                · ((try dsimp only [upds, z0, z1]); repeat (first | exact LeF.nil | refine LeF.co (k := ?_)))
                · omega
            · have hje : (subsV d l[i]).take j = subsV d l[i] := List.take_of_length_le (by omega)
              rw [hje]
              ((repeat' (first | ((first | apply WL.opN | apply WD.opN); exact yF; dsimp only [setD, z0, z1]) | refine WL.nil ?_ | refine WC.seqK fun Kx hK => ?_ | (refine hK _ _ ?_; clear hK) | (refine Kont.skip ?_; clear hK) | refine WC.region ?_ |  (apply (WL.perm (List.Perm.swap _ _ _)); apply WL.app1 elSi; exact OpD.t rfl; exact OpD.t rfl; decide; omega; intro v'; refine WL.perm (List.Perm.swap _ _ _) ?_; dsimp only [setD, z0, z1]) | ((first | apply WL.opG | apply WD.op); (focus (first | exact wN | (apply SYG.yes; (exact wY); ((first | exact yLss | exact yAdd | fail); all_goals infer_instance)))); dsimp only [setD, z0, z1]) | (apply WC.condD; (exact oD); all_goals (intro h; try exact xD)) | refine WC.exit ?_ | refine ThenD.n ?_)); all_goals (first | ((repeat clear hK); (repeat clear Kx))))
              refine ⟨(i + 1, _, o ++ subsV d l[i]), ?_, by simp only; omega, rfl, ?_⟩
              rotate_left
              · ((try dsimp only [upds, z0, z1]); repeat (first | exact LeF.nil | refine LeF.co (k := ?_)))
              · refine ⟨by omega, ?_⟩
                show o ++ _ = _
                rw [fcsC_snoc hil, h2]
        · have hie : i = l.length := by omega
          subst hie
          rw [List.take_length] at h2
          subst h2
          have hfg : ∀ f ∈ fcsC l d, chkV f = 0 := fun f hf => all_good27 (by omega) hg.2.2.1 f (fcsC_mem.1 hf)
          have hok := cntM_ok hfg
          have hnd := (cntM_keys (fcsC l d)).1
          have hml := cntM_len (fcsC l d)
          have hcnt : ∀ f ∈ fcsC l d, (lookM (cntM (fcsC l d)) f).getD 0 = ((aroundC l f).length : Int) := fun f hf => by
            rw [cntM_count, count_fcs hg.asc (chkV_zero.1 (hfg f hf)).2.2.2]
            obtain ⟨s, _, hfs⟩ := allC_mem.1 (fcsC_mem.1 hf)
            exact (subsV_mem d s f).1 hfs |>.2
          have hat : ∀ (j : Nat) (hj : j < (cntM (fcsC l d)).length), (cntM (fcsC l d))[j].1 ∈ fcsC l d ∧ (cntM (fcsC l d))[j].2 = ((aroundC l (cntM (fcsC l d))[j].1).length : Int) := fun j hj => by
            have h3 := ((cntM_keys (fcsC l d)).2 _).1 (List.mem_map_of_mem (List.getElem_mem hj))
            refine ⟨h3, ?_⟩
            rw [cntM_at _ hj, ← cntM_count, hcnt _ h3]
          (repeat' (first | refine WL.nil ?_ | refine WC.seqK fun Kx hK => ?_ | (refine hK _ _ ?_; clear hK) | (refine Kont.skip ?_; clear hK) | refine WC.region ?_ |  (refine WL.rangeM mapT_cnt (OpD.t rfl) (.head _) fun r => ?_; dsimp only [setD, z0, z1]) | ((first | apply WL.opG | apply WD.op); (focus (first | exact wN | (apply SYG.yes; (exact wY); ((first | (apply SY.load tyCnt; exact OpD.t rfl) | exact yLss | fail); all_goals infer_instance)))); dsimp only [setD, z0, z1]) | (apply WC.condD; (exact oD); all_goals (intro h; try exact xD)) | refine WC.exit ?_ | refine WC.block ?_))
          (refine WC.loopU (X := Array Nat) (fun seen => [(3, dA), (16, dA), (73, dA), (74, dA), (75, dA), (76, dA), (77, dA), (78, dA), (79, dA)]) (fun seen => (hIt b r (cntM (fcsC l d)).length seen :: hCnt b (cntM (fcsC l d)) :: hRow v 22 Verts (fcsC l d) :: hCell b2 39 1 true (dX (.agg #[.slice none 0 0])) :: [])) (fun seen => (cntM (fcsC l d)).length - seen.size) (fun seen => seen.toList.Nodup ∧ (∀ j ∈ seen, j < (cntM (fcsC l d)).length) ∧ ∀ (j : Nat) (hj : j < (cntM (fcsC l d)).length), j ∈ seen → (cntM (fcsC l d))[j].2 ≤ 2) #[] ?start ?frame0 ?objs0 ?round)
          case start => exact ⟨by simp, by simp, fun j hj h => by simp at h⟩
          case frame0 => ((try dsimp only [upds, z0, z1]); repeat (first | exact LeF.nil | refine LeF.co (k := ?_)))
          case objs0 => rfl
          case round =>
            rintro seen ⟨q1, q2, q3⟩
            dsimp only [upds, z0, z1]
            refine WC.seqK fun Kx hK => ?_
            refine WC.region ?_
            refine WL.nextM (OpD.t rfl) (.head _) (fun hall => ?_) (fun j hj hns => ?_)
            · dsimp only [setD, z0, z1]
              have hsub : ∀ f ∈ fcsC l d, (aroundC l f).length = 1 ∨ (aroundC l f).length = 2 := fun f hf => by
                obtain ⟨p, hp1, hp2⟩ := List.mem_map.1 (((cntM_keys (fcsC l d)).2 f).2 hf)
                obtain ⟨j, hj, rfl⟩ := List.getElem_of_mem hp1
                have h4 := q3 j hj (hall j hj)
                have h5 := hat j hj
                rw [hp2] at h5
                have h6 : 0 < (fcsC l d).count f := List.count_pos_iff.2 hf
                have h7 := hcnt f hf
                rw [cntM_count] at h7
                omega
              have hall2 : (allC l d).all (okC l) = true := List.all_eq_true.2 fun f hf => by
                have := hsub f (fcsC_mem.2 hf)
                unfold okC
                rcases this with h | h <;> simp [h]
              have e : bndP l = ((allC l d).filter (oneC l), 0) := by
                unfold bndP
                rw [if_neg (by omega), if_neg hp, hd, Int.toNat_natCast, if_pos hall2]
              have e2 : maxC ((fcsC l d).filter fun f => decide ((lookM (cntM (fcsC l d)) f).getD 0 = 1)) = (allC l d).filter (oneC l) := by
                refine max_same (d := d) (fun s hs => ?_) (by omega) (List.Pairwise.filter _ (allC_asc l d)) fun x => ?_
                · obtain ⟨t, _, ht⟩ := allC_mem.1 (fcsC_mem.1 (List.mem_filter.1 hs).1)
                  exact (subsV_mem d t s).1 ht |>.2
                · rw [List.mem_filter, List.mem_filter, fcsC_mem]
                  refine and_congr_right fun hx => ?_
                  rw [hcnt x (fcsC_mem.2 hx)]
                  unfold oneC
                  simp only [decide_eq_true_eq]
                  omega
              have hfg2 : ∀ f ∈ (fcsC l d).filter fun f => decide ((lookM (cntM (fcsC l d)) f).getD 0 = 1), chkV f = 0 := fun f hf => hfg f (List.mem_filter.1 hf).1
              have hfl9 : (fcsC l d).length ≤ 1000000 := by
                rw [fcs_pure hlen]
                have := Nat.mul_le_mul hll (show d + 1 ≤ 8 by omega)
                omega
              have hfl2 : ((fcsC l d).filter fun f => decide ((lookM (cntM (fcsC l d)) f).getD 0 = 1)).length ≤ 1000000 := Nat.le_trans (List.length_filter_le _ _) hfl9
              (repeat' (first | ((first | apply WL.opN | apply WD.opN); exact yF; dsimp only [setD, z0, z1]) | refine WL.nil ?_ | refine WC.seqK fun Kx hK => ?_ | (refine hK _ _ ?_; clear hK) | (refine Kont.skip ?_; clear hK) | refine WC.region ?_ | ((first | apply WL.opG | apply WD.op); (focus (first | exact wN | (apply SYG.yes; (exact wY); ((first | exact yExtract | fail); all_goals infer_instance)))); dsimp only [setD, z0, z1]) | (apply WC.condF; (exact oD); (with_reducible rfl)) | refine WC.exit ?_))
              refine WL.drop ?_
              refine WL.keepM (s := 7) (R := RI) rfl (fun _ _ _ => rfl) ?_
              refine WL.keep1 (s := 80) rfl ?_
              dsimp only [upds, z0, z1]
              ((repeat' (first | ((first | apply WL.opN | apply WD.opN); exact yF; dsimp only [setD, z0, z1]) | refine WL.nil ?_ | (refine hK _ _ ?_; clear hK) | (apply WL.storeF; (exact tD); rfl; (exact oD); (exact hD); dsimp only [setD, z0, z1]) | ((first | apply WL.opG | apply WD.op); (focus (first | exact wN | (apply SYG.yes; (exact wY); ((first | (apply SY.makeFun (A := fun v : MemS (fcsC l d) => [dS Verts v.1]) (r := fun v => dB (decide ((lookM (cntM (fcsC l d)) v.1).getD 0 = 1))) Tryz.call107 (fun v => bnd1_p v.1 (cntM (fcsC l d)) (hfg v.1 v.2) hok hnd) (fun _ => bare_B); (exact aD)) | (apply SY.call (filterS_p (fcsC l d) (fun f => decide ((lookM (cntM (fcsC l d)) f).getD 0 = 1)) hfl9) Tryz.call106; (exact aD)) | (apply SY.call (complexOf_p _ hfg2 hfl2) Tryz.call82; (exact aD)) | fail); all_goals infer_instance)))); dsimp only [setD, z0, z1]) | refine WC.ret ?_)); all_goals (first | ((repeat clear hK); (repeat clear Kx))))
              rw [e, e2]; (refine ⟨trivial, ⟨_, rfl, ?_⟩, _, rfl, ?_⟩ <;> exact fD)
            · dsimp only [setD, z0, z1]
              have hmem := List.Nodup.length_le_of_subset (l₁ := (seen.push j).toList) (l₂ := List.range (cntM (fcsC l d)).length) (by
                rw [Array.toList_push, List.nodup_append]
                refine ⟨q1, by simp, fun a ha c hc => ?_⟩
                rw [List.mem_singleton.1 hc]
                intro he
                exact hns (by rw [← he]; simpa using ha)) (fun x hx => by
                rw [List.mem_range]
                rw [Array.toList_push, List.mem_append] at hx
                rcases hx with hx | hx
                · exact q2 x (by simpa using hx)
                · rw [List.mem_singleton.1 hx]; exact hj)
              rw [List.length_range, Array.length_toList, Array.size_push] at hmem
              ((repeat' (first | ((first | apply WL.opN | apply WD.opN); exact yF; dsimp only [setD, z0, z1]) | refine WL.nil ?_ | refine WC.seqK fun Kx hK => ?_ | (refine hK _ _ ?_; clear hK) | refine WC.region ?_ | ((first | apply WL.opG | apply WD.op); (focus (first | exact wN | (apply SYG.yes; (exact wY); ((first | (refine SY.entryM (OpD.t rfl) (.head _) (.tail _ (.head _)) hj) | (apply SY.gtr; exact OpD.tle rfl Dat.le_i; exact OpD.i) | exact yBuild | exact yExtract | fail); all_goals infer_instance)))); dsimp only [setD, z0, z1]) | (apply WC.condT; (exact oD); (with_reducible rfl)) | (apply WC.condD; (exact oD); all_goals (intro h; try exact xD)) | refine WC.skip ?_ | refine WC.block ?_ | refine ThenD.n ?_ | refine InBlockD.n ?_)); all_goals (first | refine WL.id ?_ | ((repeat clear hK); (repeat clear Kx))))
              · have e : bndP l = ([], 15) := by
                  unfold bndP
                  rw [if_neg (by omega), if_neg hp, hd, Int.toNat_natCast, if_neg]
                  intro hall
                  have h5 := hat j hj
                  have h6 := List.all_eq_true.1 hall _ (fcsC_mem.1 h5.1)
                  unfold okC at h6
                  simp only [Bool.or_eq_true, decide_eq_true_eq] at h6
                  omega
                refine WL.drop (WL.drop (WL.drop ?_))
                ((repeat' (first | ((first | apply WL.opN | apply WD.opN); exact yF; dsimp only [setD, z0, z1]) | refine WL.nil ?_ | (refine hK _ _ ?_; clear hK) | (apply WL.storeF; (exact tD); rfl; (exact oD); (exact hD); dsimp only [setD, z0, z1]) | refine WC.ret ?_ | refine ThenD.r ?_ | refine InBlockD.r ?_)); all_goals (first | ((repeat clear hK); (repeat clear Kx))))
                rw [e]
                (refine ⟨trivial, ⟨_, rfl, ?_⟩, _, rfl, ?_⟩ <;> exact fD)
              · refine ⟨seen.push j, ?_, by rw [Array.size_push]; omega, rfl, ?_⟩
                rotate_left
                · ((try dsimp only [upds, z0, z1]); repeat (first | exact LeF.nil | refine LeF.co (k := ?_)))
                · refine ⟨?_, fun x hx => ?_, fun x hx hxs => ?_⟩
                  · rw [Array.toList_push, List.nodup_append]
                    refine ⟨q1, by simp, fun a ha c hc => ?_⟩
                    rw [List.mem_singleton.1 hc]
                    intro he
                    exact hns (by rw [← he]; simpa using ha)
                  · rcases Array.mem_push.1 hx with hx | rfl
                    · exact q2 x hx
                    · exact hj
                  · rcases Array.mem_push.1 hxs with hx' | rfl
                    · exact q3 x hx hx'
                    · omega
  · have e : bndP l = ([], chkC l) := by unfold bndP; rw [if_pos h0]
    ((repeat' (first | ((first | apply WL.opN | apply WD.opN); exact yF; dsimp only [setD, z0, z1]) | refine WL.nil ?_ | refine WC.seqK fun Kx hK => ?_ | (refine hK _ _ ?_; clear hK) | refine WC.region ?_ | (apply WL.alloc; (first | exact tzV | exact tzC); (first | exact shape_X rfl | exact shape_XV | exact shape_C0 rfl); (intro _; dsimp only [setD, z0, z1])) | (apply WL.storeF; (exact tD); rfl; (exact oD); (exact hD); dsimp only [setD, z0, z1]) | ((first | apply WL.opG | apply WD.op); (focus (first | exact wN | (apply SYG.yes; (exact wY); ((first | (apply SY.call (check_p _) Tryz.call90; (exact aD)) | exact yNeq | exact yBuild | exact yBox | fail); all_goals infer_instance)))); dsimp only [setD, z0, z1]) | (apply WC.condN; (exact oD); all_goals (intro h; try exact xD)) | refine WC.ret ?_ | refine ThenD.r ?_)); all_goals (first | ((repeat clear hK); (repeat clear Kx))))
    all_goals (rw [e]; (refine ⟨trivial, ⟨_, rfl, ?_⟩, _, rfl, ?_⟩ <;> exact fD))
end Go.Proofs.YtgppfikidagfpaaGreatDoor
namespace Go.Proofs.YtgppfikidagfpaaGreatDoor
open Go.RowKit
set_option linter.unusedSimpArgs false

set_option maxHeartbeats 2000000
set_option maxRecDepth 100000
abbrev vc : Vx := (2, 0)
abbrev vd : Vx := (3, 0)
end Go.Proofs.YtgppfikidagfpaaGreatDoor
namespace Go.Proofs.YtgppfikidagfpaaGreatDoor
open Go.RowKit
set_option linter.unusedSimpArgs false

set_option maxHeartbeats 2000000
set_option maxRecDepth 100000
def chooseN : Nat → Nat → Nat
  | _, 0 => 1
  | 0, _ + 1 => 0
  | n + 1, k + 1 => chooseN n k + chooseN n (k + 1)
theorem subs_choose : ∀ (s : List Vx) (k : Nat), (subsV k s).length = chooseN s.length k
  | s, 0 => by rw [subsV_zero]; cases s <;> rfl
  | [], k + 1 => by rw [subsV_short _ _ (by simp)]; rfl
  | v :: s, k + 1 => by rw [subsV_next, subs_choose s k, subs_choose s (k + 1)]; rfl
end Go.Proofs.YtgppfikidagfpaaGreatDoor
namespace Go.Proofs.YtgppfikidagfpaaGreatDoor
theorem all_few {l : Cx} {k B : Nat} (h : ∀ s ∈ l, (subsV k s).length ≤ B) : (allC l k).length ≤ B * l.length := by
  have h1 : (allC l k).length ≤ (fcsC l k).length := List.Nodup.length_le_of_subset (allC_asc l _).nodup fun x hx => fcsC_mem.2 hx
  have h2 : ∀ l : Cx, (∀ s ∈ l, (subsV k s).length ≤ B) → (fcsC l k).length ≤ B * l.length := by
    intro l
    induction l with
    | nil => intro _; simp [fcsC]
    | cons s l ih =>
      intro h
      have h3 := ih fun x hx => h x (List.mem_cons_of_mem _ hx)
      have h4 := h s (by simp)
      have h5 : (fcsC (s :: l) k).length = (subsV k s).length + (fcsC l k).length := by unfold fcsC; simp
      rw [h5, List.length_cons, Nat.mul_add, Nat.mul_one]
      omega
  exact Nat.le_trans h1 (h2 l h)
theorem choose_5 : ∀ n ≤ 5, ∀ k ≤ 5, chooseN n k ≤ 10 := by decide
structure Gd (l : Cx) : Prop where
  good : GoodX l
  few : l.length ≤ 30
  five : ∀ s ∈ l, s.length ≤ 5
theorem Gd.all {l : Cx} (h : Gd l) (k : Nat) : (allC l k).length ≤ 300 := by
  have := all_few (l := l) (k := k) (B := 10) fun s hs => by
    have h5 := h.five s hs
    by_cases hk : k ≤ 5
    · rw [subs_choose]; exact choose_5 _ h5 _ hk
    · rw [subsV_short k s (by omega)]; simp
  have := h.few
  omega
theorem Gd.zero {l : Cx} (h : Gd l) : chkC l = 0 := goodX_iff.2 h.good
theorem Gd.none {l : Cx} (h : Gd l) {k : Nat} (hk : 5 < k) : allC l k = [] := by
  apply List.eq_nil_iff_forall_not_mem.2
  intro x hx
  obtain ⟨f, hf, hx⟩ := allC_mem.1 hx
  rw [subsV_short k f (by have := h.five f hf; omega)] at hx
  simp at hx
end Go.Proofs.YtgppfikidagfpaaGreatDoor
