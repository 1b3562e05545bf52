/-
  Part 31 of the texts that the claims of this seat lean on: walks of the program's functions by contracts over symbolic frames, and plain laws of what they compute. No condition.
-/
import Derived.Test.YtjbepoofigokjaaGreatVt19
import Derived.Test.YtjbepoofigokjaaGreatVt30
set_option linter.unusedVariables false
set_option linter.unusedSimpArgs false
set_option linter.unusedSectionVars false
namespace Go.Proofs.YtjbepoofigokjaaGreat
open Go.RowKit
set_option linter.unusedSimpArgs false

set_option maxHeartbeats 2000000
set_option maxRecDepth 100000
theorem shape_Mp {K V : Type} {kv : K → Value} {R : Rel V} [Good R] {m : List (K × V)} : (dS (MapR kv R) m).Shape 1 false := shape_one fun _ _ _ h => by
  obtain ⟨b, us, rfl, _⟩ := h
  rfl
theorem free_k (l : Cx) (G : GoodX l) : CallC Tryz.prog 78 ([dS Cpx l] ++ ([] : List Value).map dX) [] (fun d hp2 => ∃ v1 v2, d = dX (.func (.func 118) #[] [v1, v2].toArray) ∧ hp2 = [hKnow v1 (dP 1 true (dS Cpx l)), hKnow v2 (dP 1 false (dS (MapR kvK RI) (cntK l)))]) := by
  (refine CallC.intro Tryz.func78 rfl rfl (fun hp => ?_); simp only [Tryz.ntmps78, List.length_cons, List.length_nil, List.length_append, List.length_map, Nat.reduceAdd, Nat.reduceSub, List.replicate_succ, List.replicate_zero, List.cons_append, List.nil_append, List.map_cons, List.map_nil, List.append_assoc])
  have c1 := counts32_p l G
  ((repeat' (first |  (refine WC.pin (d := dP 1 false (dS (MapR kvK RI) (cntK l))) 3 rfl fun v2 => ?_; dsimp only [z0, z1]; refine WC.pin (d := dP 1 true (dS Cpx l)) 1 rfl fun v1 => ?_; dsimp only [z0, z1]) | (apply WL.opN; exact yF; dsimp only [setD, z0, z1]) | refine WL.nil ?_ | refine WC.seqK fun Kx hK => ?_ | (refine hK _ _ ?_; clear hK) | refine WC.region ?_ |  (apply WL.alloc tzCnt2; exact shape_X rfl; (intro b3; dsimp only [setD, z0, z1])) |  (apply WL.storeF tyCnt2; exact rfl; exact OpD.t rfl; exact shape_Mp; dsimp only [setD, z0, z1]) | (apply WL.opN; (focus ((first | (apply SY.call (c1) Tryz.call117; (exact aD)) | (apply SY.makeX; repeat (first | exact ArgsX.nil | (apply ArgsX.cons; exact OpD.t rfl))) | (apply SY.box; (exact oD); (exact hD)) | fail); all_goals infer_instance)); dsimp only [setD, z0, z1]) | refine WC.ret ?_)); all_goals (first | ((repeat clear hK); (repeat clear Kx))))
  exact ⟨trivial, _, [_, _], rfl, rfl, v1, v2, rfl, rfl⟩
theorem sorted32_p (l : Cx) (G : GoodX l) : Fn Tryz.prog 43 [dS Cpx l] (dS Cols (pairsC l)) := by
  (refine Fn.intro1 Tryz.func43 rfl rfl ?_; simp only [Tryz.ntmps43, List.length_cons, List.length_nil, Nat.reduceAdd, Nat.reduceSub, List.replicate_succ, List.replicate_zero, List.cons_append, List.nil_append])
  have hfl := freeP_len G
  have hfm : (freeP l).length ≤ 1000000 := by omega
  have hfM : (freeP l).length < 4611686018427387904 := by omega
  ((repeat' (first | (apply WL.opN; exact yF; dsimp only [setD, z0, z1]) | refine WL.nil ?_ | refine WC.seqK fun Kx hK => ?_ | (refine hK _ _ ?_; clear hK) | refine WC.region ?_ |  (refine WL.callC (hp1 := []) (caps := []) (free_k l G) Tryz.call78 OpD.f (by (exact aD)) ?_; rintro d' hp2 ⟨v1, v2, rfl, rfl⟩; dsimp only [setD, z0, z1, List.cons_append, List.nil_append]) |  (refine WL.callC (caps := []) (collectK_c Tryz.call118 (free1_e l G v1 v2).seq hfm) Tryz.call77 OpD.f (by (exact aD)) ?_; rintro d' hp2 ⟨v, rfl, rfl⟩; dsimp only [setD, z0, z1, List.cons_append, List.nil_append]) |  (refine WL.sortK (OpD.t rfl) hfM fun ys hys hso => ?_; obtain rfl := free_sorted G hys hso; dsimp only [setD, z0, z1]) | (apply WL.opN; (focus ((first | (apply SY.box; (exact oD); (exact hD)) | fail); all_goals infer_instance)); dsimp only [setD, z0, z1]) | refine WC.ret ?_)); all_goals (first | ((repeat clear hK); (repeat clear Kx))))
  (refine ⟨trivial, _, rfl, ?_⟩; exact fD)
theorem free32_p (l : Cx) : Fn Tryz.prog 13 [dS Cpx l] (dT [dS Cols (freeK l).1, dI (freeK l).2]) := by
  (refine Fn.intro2 Tryz.func13 rfl rfl ?_; simp only [Tryz.ntmps13, List.length_cons, List.length_nil, Nat.reduceAdd, Nat.reduceSub, List.replicate_succ, List.replicate_zero, List.cons_append, List.nil_append])
  have c0 := check_p l
  by_cases h0 : chkC l = 0
  · have e : freeK l = (pairsC l, 0) := if_neg (by omega)
    have c1 := sorted32_p l (goodX_iff.1 h0)
    rw [e]
    ((repeat' (first | (apply WL.opN; exact yF; dsimp only [setD, z0, z1]) | refine WL.nil ?_ | refine WC.seqK fun Kx hK => ?_ | (refine hK _ _ ?_; clear hK) | refine WC.region ?_ | (apply WL.opN; (focus ((first | (apply SY.call (c0) Tryz.call35; (exact aD)) | (apply SY.call (c1) Tryz.call43; (exact aD)) | ((first | apply SY.move | apply SY.assign | apply SY.neq) <;> (exact oD)) | (apply SY.box; (exact oD); (exact hD)) | fail); all_goals infer_instance)); dsimp only [setD, z0, z1]) | (apply WC.condN; (exact oD); all_goals (intro h; try exact xD)) | refine WC.skip ?_ | refine WC.ret ?_)); all_goals (first | ((repeat clear hK); (repeat clear Kx))))
    all_goals first | (exfalso; omega) | (refine ⟨trivial, ⟨_, rfl, ?_⟩, _, rfl, ?_⟩ <;> exact fD)
  · have e : freeK l = ([], chkC l) := if_pos h0
    rw [e]
    ((repeat' (first | (apply WL.opN; exact yF; dsimp only [setD, z0, z1]) | refine WL.nil ?_ | refine WC.seqK fun Kx hK => ?_ | (refine hK _ _ ?_; clear hK) | refine WC.region ?_ | (apply WL.opN; (focus ((first | (apply SY.call (c0) Tryz.call35; (exact aD)) | ((first | apply SY.move | apply SY.assign | apply SY.neq) <;> (exact oD)) | (apply SY.box; (exact oD); (exact hD)) | fail); all_goals infer_instance)); dsimp only [setD, z0, z1]) | (apply WC.condN; (exact oD); all_goals (intro h; try exact xD)) | refine WC.ret ?_ | refine ThenD.r ?_)); all_goals (first | ((repeat clear hK); (repeat clear Kx))))
    all_goals first | (exfalso; omega) | (refine ⟨trivial, ⟨_, rfl, ?_⟩, _, rfl, ?_⟩ <;> exact fD)
end Go.Proofs.YtjbepoofigokjaaGreat
namespace Go.Proofs.YtjbepoofigokjaaGreat
open Go.RowKit
set_option linter.unusedSimpArgs false

set_option maxHeartbeats 2000000
set_option maxRecDepth 100000
theorem tyBo : TyI Tryz.prog 4 1 false := ⟨by kernel_rfl, Tryz.isAgg4⟩
theorem tzBo : TyZ Tryz.prog 4 (.bool false) := ⟨by kernel_rfl⟩
theorem wpList_storeD {P : Program} {ops : Array Oper} {hp : List HObj} {fr : List Dat} {d d0 : Dat} {Q : Exit → Act → World → Prop} {rest : List Oper} {P0 : Nat → Prop} {B : Nat} {w0 w : World} {a : Act} {ty : TypeId} {ps : String} {af : Array Edge} {x : Operand} {t b n : Nat} {T T2 : TypeId} {agg : Bool}
    (hT : TyI P T n agg) (hp0 : OpD fr (.tmp t) (dX (.pointer (some ⟨b, 0, none⟩)))) (hx : OpD fr x d) (hs : d.Shape n agg) (hh : Hp P0 B w0 (hCell b T2 n agg d0 :: hp) w) (hf : Fr (Imm P0 B (hCell b T2 n agg d0 :: hp)) w { tmps := a.tmps, defers := [] } fr)
    (k : ∀ w', Hp P0 B w0 (hCell b T2 n agg d :: hp) w' → Fr (Imm P0 B (hCell b T2 n agg d :: hp)) w' { tmps := a.tmps, defers := [] } fr → wpList P ops Q rest a w') :
    wpList P ops Q ({ dst := none, op := .store T (.tmp t) x, type := ty, pos := ps, after := af, guard := none } :: rest) a w := by
  obtain ⟨cs, u, c1, c2, c0, c3, c4, c5⟩ := hh.ok (hCell b T2 n agg d0) (by simp)
  have e0 : ∀ y, a.eval y = ({ tmps := a.tmps, defers := [] } : Act).eval y := fun y => by cases y <;> rfl
  have h1 : d.rd (Imm P0 B (hCell b T2 n agg d0 :: hp)) w (a.eval x) := by rw [e0]; exact OpD.ev hx hf
  obtain ⟨cs', k1, k0, k2, k3, k4⟩ := hs _ _ _ h1
  have h2 : a.eval (.tmp t) = .pointer (some ⟨b, 0, none⟩) := by rw [e0]; exact OpD.ev hp0 hf
  have hr := run_storeC (u := a.eval x) hT.size c1 c2 k1 k2 k3
  have hrun : (execOp a.eval { dst := none, op := .store T (.tmp t) x, type := ty, pos := ps, after := af, guard := none }).run P w = .ok .skip (w.setRow b cs'.toArray) := by
    unfold execOp
    simp only [h2, Sem.run_bind, hr, Result.andThen_ok, Sem.run_pure]
  refine wpList_plain rfl fun K hK => ?_
  unfold Oper.wp
  rw [hrun]
  have hgr : w.grownBy (w.setRow b cs'.toArray) (hCell b T2 n agg d0).blk := grown_setRow
  have hok : (hCell b T2 n agg d).ok (fun k => Imm P0 B (hCell b T2 n agg d0 :: hp) k ∧ k < w.heap.size) (w.setRow b cs'.toArray) :=
    ⟨cs', a.eval x, setRow_heap w b _ _ _ _ c1, k1, k0, k2, k4, d.grown (d.bound h1) hgr (fun k hk hc => hc.1.2 _ (by simp) hk)⟩
  exact hK _ _ (k _ (hh.write hgr (.inl rfl) hok) (hf.mono fun _ _ hd => Hp.written (o' := hCell b T2 n agg d) hgr (.inl rfl) hd))
set_option maxHeartbeats 8000000 in
theorem is32_k (l : Cx) (G : GoodX l) (x : Cl) : CallC Tryz.prog 48 ([dS Cpx l, dS Col x] ++ ([] : List Value).map dX) [] (fun d hp2 => d = dB (decide (x ∈ freeP l)) ∧ hp2 = []) := ⟨fun P0 B w0 hp vs W hh hl0 hv => by
  refine (callsIn_wide (n := 0)).1 (callsIn_of_wp_marks Tryz.func48 rfl trivial ?_ rfl)
  refine wpIn_wide.2 ?_
  have hf0 := fr_enter (m := 21) hl0 hv
  have hsz : vs.toArray.size = 2 := by simpa using hl0
  rw [hsz]
  have hnt : Tryz.f48.ntmps = 23 := rfl
  rw [hnt]
  simp only [List.length_cons, List.length_nil, Nat.reduceAdd, Nat.reduceSub, List.replicate_succ, List.replicate_zero, List.cons_append, List.nil_append, List.map_nil] at hf0 hh ⊢
  refine wp_seq (Code.wp_mono ?_ (WC.on (Q := fun e f q => e = .normal ∧ ∃ b4, f = [dS Cpx l, dS Col x, dP 1 true (dS Cpx l), dP 2 true (dS Col x), dX (.pointer (some ⟨b4, 0, none⟩)), dX undef, dX undef, dX undef, dX undef, dX undef, dX undef, dX undef, dX undef, dX undef, dX undef, dX undef, dX undef, dX undef, dX undef, dX undef, dX undef, dX undef, dX undef] ∧ q = hCell b4 4 1 false (dX (.bool false)) :: hp) ?_ hh hf0))
  rotate_left
  · refine WC.region ?_
    refine WL.op rfl (SY.box (OpD.t rfl) shape_C) ?_
    dsimp only [setD, z0, z1]
    refine WL.op rfl (SY.box (OpD.t rfl) shape_P) ?_
    dsimp only [setD, z0, z1]
    refine WL.alloc tzBo (shape_X rfl) fun b4 => ?_
    dsimp only [setD, z0, z1]
    exact WL.nil ⟨rfl, b4, rfl, rfl⟩
  rintro e a1 w1 ⟨f1, q1, ⟨rfl, b4, rfl, rfl⟩, hh1, hf1⟩
  show Code.wp _ _ _ _ _
  refine wp_seq ?_
  refine wp_seq (Code.wp_mono ?_ (WC.on (Q := fun e f q => e = .normal ∧ ∃ v1 v2 v3, f = [dS Cpx l, dS Col x, dP 1 true (dS Cpx l), dX v3, dX (.pointer (some ⟨b4, 0, none⟩)), dX undef, dS Cpx l, dX (.func (.func 118) #[] [v1, v2].toArray), dX undef, dX undef, dX undef, dX undef, dX undef, dX undef, dX undef, dX undef, dX undef, dX undef, dX undef, dX undef, dX undef, dX undef, dX undef] ∧ q = [hCell b4 4 1 false (dX (.bool false)), hKnow v3 (dP 2 true (dS Col x))] ++ ([hKnow v1 (dP 1 true (dS Cpx l)), hKnow v2 (dP 1 false (dS (MapR kvK RI) (cntK l)))] ++ hp)) ?_ hh1 hf1))
  rotate_left
  · refine WC.pin (d := dP 2 true (dS Col x)) 3 rfl fun v3 => ?_
    dsimp only [z0, z1]
    refine WC.region ?_
    refine WL.op rfl (SY.load tyC (OpD.t rfl)) ?_
    dsimp only [setD, z0, z1]
    refine WL.callC (hp1 := []) (caps := []) (free_k l G) Tryz.call78 OpD.f (ArgsD.cons (OpD.t rfl) ArgsD.nil) ?_
    rintro d' hp2 ⟨v1, v2, rfl, rfl⟩
    dsimp only [setD, z0, z1, List.cons_append, List.nil_append]
    refine WL.perm (hp' := [hCell b4 4 1 false (dX (.bool false)), hKnow v3 (dP 2 true (dS Col x))] ++ ([hKnow v1 (dP 1 true (dS Cpx l)), hKnow v2 (dP 1 false (dS (MapR kvK RI) (cntK l)))] ++ hp)) ?_ (WL.nil ⟨rfl, v1, v2, v3, rfl, rfl⟩)
    exact (List.perm_append_comm (l₁ := [_, _]) (l₂ := [_, _])).append_right hp |>.trans ((List.Perm.swap _ _ _))
  rintro e a2 w2 ⟨f2, q2, ⟨rfl, v1, v2, v3, rfl, rfl⟩, hh2, hf2⟩
  show Code.wp _ _ _ _ _
  refine wp_block ?_
  refine wp_rangeE (hs0 := [_, _]) (hk := [_, _]) (hp := hp) (xs := freeP l) (D := fun x => dS Col x)
    (fun pre hs => hs = [hCell b4 4 1 false (dX (.bool false)), hKnow v3 (dP 2 true (dS Col x))] ∧ x ∉ pre) (fun pre hs => hs = [hCell b4 4 1 false (dX (.bool true)), hKnow v3 (dP 2 true (dS Col x))] ∧ x ∈ pre) _
    (fun y => [dA, dA, dA, dX v3, dX (.pointer (some ⟨b4, 0, none⟩)), dP 2 true (dS Col y), dA, dX (.func (.func 118) #[] [v1, v2].toArray), dS Col y, dX undef, dX undef, dX undef, dX undef, dX undef, dX undef, dX undef, dX undef, dX undef, dX undef, dX undef, dX undef, dX undef, dX undef]) hh2 hf2 (OpD.t rfl) Tryz.call118 (free1_e l G v1 v2) ⟨rfl, by simp⟩ (by repeat (first | exact FixF.nil | apply FixF.x | apply FixF.a)) ?_ ?_ ?_ ?_
  · intro l' y q
    refine WR.region rfl (I.WL.alloc tzCo shape_Z2 fun b5 => ?_)
    dsimp only [setD, z0, z1]
    refine I.WL.storeF tyCo rfl (OpD.t rfl) shape_P ?_
    dsimp only [setD, z0, z1]
    exact I.WL.nil ⟨rfl, rfl, rfl⟩
  · rintro l' pre y hs q hlt ⟨rfl, hn⟩
    have c1 := cmpL_p x.1 y.1
    have c2 := cmpL_p x.2 y.2
    refine WR.block (WR.use 3 rfl (.tail _ (.head _)) ?_)
    dsimp only [z0, z1]
    refine WR.seq (WR.region rfl ?_)
    refine I.WL.op rfl (SY.fldP0 (_gR := inferInstance) (_gS := inferInstance) colT (OpD.t rfl)) ?_
    dsimp only [setD, z0, z1]
    refine I.WL.op rfl (SY.load tySi (OpD.t rfl)) ?_
    dsimp only [setD, z0, z1]
    refine I.WL.op rfl (SY.fldP0 (_gR := inferInstance) (_gS := inferInstance) colT (OpD.t rfl)) ?_
    dsimp only [setD, z0, z1]
    refine I.WL.op rfl (SY.load tySi (OpD.t rfl)) ?_
    dsimp only [setD, z0, z1]
    refine I.WL.op rfl (SY.call c1 Tryz.call66 (ArgsD.cons (OpD.t rfl) (ArgsD.cons (OpD.t rfl) ArgsD.nil))) ?_
    dsimp only [setD, z0, z1]
    refine I.WL.op rfl (SY.eql (OpD.t rfl) OpD.i) ?_
    dsimp only [setD, z0, z1]
    refine I.WL.op rfl (SY.move (OpD.t rfl)) ?_
    dsimp only [setD, z0, z1]
    by_cases h1 : cmpL x.1 y.1 = 0
    · refine I.WL.opG (.inl ⟨want_yes rfl rfl rfl (decide_eq_true h1), SY.fldP1 (_gR := inferInstance) (_gS := inferInstance) colT (OpD.t rfl)⟩) ?_
      dsimp only [setD, z0, z1]
      refine I.WL.opG (.inl ⟨want_yes rfl rfl rfl (decide_eq_true h1), SY.load tySi (OpD.t rfl)⟩) ?_
      dsimp only [setD, z0, z1]
      refine I.WL.opG (.inl ⟨want_yes rfl rfl rfl (decide_eq_true h1), SY.fldP1 (_gR := inferInstance) (_gS := inferInstance) colT (OpD.t rfl)⟩) ?_
      dsimp only [setD, z0, z1]
      refine I.WL.opG (.inl ⟨want_yes rfl rfl rfl (decide_eq_true h1), SY.load tySi (OpD.t rfl)⟩) ?_
      dsimp only [setD, z0, z1]
      refine I.WL.opG (.inl ⟨want_yes rfl rfl rfl (decide_eq_true h1), SY.call c2 Tryz.call66 (ArgsD.cons (OpD.t rfl) (ArgsD.cons (OpD.t rfl) ArgsD.nil))⟩) ?_
      dsimp only [setD, z0, z1]
      refine I.WL.opG (.inl ⟨want_yes rfl rfl rfl (decide_eq_true h1), SY.eql (OpD.t rfl) OpD.i⟩) ?_
      dsimp only [setD, z0, z1]
      refine I.WL.op rfl (SY.pickT (OpD.t rfl) (decide_eq_true h1) (OpD.t rfl)) ?_
      dsimp only [setD, z0, z1]
      refine I.WL.nil (ThenD.n (WR.cond (OpD.t rfl) (fun hb => ?_) fun hb => ?_))
      · have hxy : x = y := Prod.ext (cmpL_eq.1 h1) (cmpL_eq.1 (of_decide_eq_true hb))
        refine WR.seq (WR.region rfl (I.WL.storeK tyBo (OpD.t rfl) OpD.x (shape_X rfl) (I.WL.nil (ThenD.n (WR.ret (InBlockD.r ?_))))))
        exact .inr ⟨rfl, _, ⟨rfl, by rw [hxy]; simp⟩, rfl⟩
      · have hxy : x ≠ y := fun e => of_decide_eq_false hb (cmpL_eq.2 (by rw [e]))
        exact WR.skip (InBlockD.n (.inl ⟨rfl, _, ⟨rfl, by simp [hn, hxy]⟩, rfl⟩))
    · refine I.WL.opG (d := dX undef) (.inr ⟨want_notT rfl rfl rfl (decide_eq_false h1), rfl⟩) ?_
      dsimp only [setD, z0, z1]
      refine I.WL.opG (d := dX undef) (.inr ⟨want_notT rfl rfl rfl (decide_eq_false h1), rfl⟩) ?_
      dsimp only [setD, z0, z1]
      refine I.WL.opG (d := dX undef) (.inr ⟨want_notT rfl rfl rfl (decide_eq_false h1), rfl⟩) ?_
      dsimp only [setD, z0, z1]
      refine I.WL.opG (d := dX undef) (.inr ⟨want_notT rfl rfl rfl (decide_eq_false h1), rfl⟩) ?_
      dsimp only [setD, z0, z1]
      refine I.WL.opG (d := dX undef) (.inr ⟨want_notT rfl rfl rfl (decide_eq_false h1), rfl⟩) ?_
      dsimp only [setD, z0, z1]
      refine I.WL.opG (d := dX undef) (.inr ⟨want_notT rfl rfl rfl (decide_eq_false h1), rfl⟩) ?_
      dsimp only [setD, z0, z1]
      refine I.WL.op rfl (SY.pickF (OpD.t rfl) (decide_eq_false h1) OpD.b) ?_
      dsimp only [setD, z0, z1]
      refine I.WL.nil (ThenD.n (WR.cond (OpD.t rfl) (fun hb => ?_) fun hb => ?_))
      · cases hb
      · have hxy : x ≠ y := fun e => h1 (cmpL_eq.2 (by rw [e]))
        exact WR.skip (InBlockD.n (.inl ⟨rfl, _, ⟨rfl, by simp [hn, hxy]⟩, rfl⟩))
  · rintro k hs w3 ⟨rfl, hn⟩ hh3 hrd
    show Code.wp _ _ _ _ _
    have hf3 : Fr _ w3 { tmps := a2.tmps, defers := [] } _ := ⟨rfl, hf2.size, hrd⟩
    obtain ⟨hh3', hI⟩ := hh3.perm (List.Perm.swap _ _ _)
    have hf3' := hf3.mono fun d v hd => d.weak hd fun k hk => (hI k).1 hk
    refine wp_seq (wp_region_lit ?_)
    refine wpList_storeD (d := dX (.bool false)) tyBo (OpD.t rfl) OpD.x (shape_X rfl) hh3' hf3' fun w4 hh4 hf4 => ?_
    refine wpList_nil ?_
    show Code.wp _ _ _ _ _
    refine wp_ret ?_
    show LeavesInM _ _ _ _ _ _ _ _ _
    rw [hf2.defers]
    have hK : w4.heap[k]? = some (.deferred (some [])) := hh4.ok (hObj k (.deferred (some []))) (by simp)
    obtain ⟨hh5, _⟩ := hh4.perm (List.Perm.swap _ _ _)
    have hh6 := (Hp.putObj (o' := .deferred none) hh5).drop
    obtain ⟨cs, u, c1, c2, c0, c3, c4, c5⟩ := hh6.ok (hCell b4 4 1 false (dX (.bool false))) (by simp)
    have hcc := cells_of_obj (I := fun _ => True) c1 c2 c0 c3 c4 trivial
    have hp0 : a2.tmps.getD 4 undef = .pointer (some ⟨b4, 0, none⟩) := hf4.rd 4 _ rfl
    refine ⟨by simp, .inl ⟨_, _, rfl, run_takeDeferred hK, _, results_cellC tyBo rfl hp0 hcc, ?_⟩⟩
    exact ⟨_, dB (decide (x ∈ freeP l)), [], rfl, ⟨rfl, rfl⟩, hh6.drop.drop.drop.drop, by rw [decide_eq_false hn]; exact c5⟩
  · rintro k pre y t hs w3 hxs ⟨rfl, hm⟩ hh3 hrd
    show LeavesInM _ _ _ _ _ _ _ _ _
    have hf3 : Fr _ w3 { tmps := a2.tmps, defers := [] } _ := ⟨rfl, hf2.size, hrd⟩
    rw [hf2.defers]
    have hK : w3.heap[k]? = some (.deferred (some [])) := hh3.ok (hObj k (.deferred (some []))) (by simp)
    have hh6 := (Hp.putObj (o' := .deferred none) hh3).drop
    obtain ⟨cs, u, c1, c2, c0, c3, c4, c5⟩ := hh6.ok (hCell b4 4 1 false (dX (.bool true))) (by simp)
    have hcc := cells_of_obj (I := fun _ => True) c1 c2 c0 c3 c4 trivial
    have hp0 : a2.tmps.getD 4 undef = .pointer (some ⟨b4, 0, none⟩) := hf3.rd 4 _ rfl
    have hmem : x ∈ freeP l := by
      rw [hxs]
      rcases List.mem_append.1 hm with h | h
      · exact List.mem_append_left _ h
      · rw [List.mem_singleton.1 h]; simp
    refine ⟨by simp, .inl ⟨_, _, rfl, run_takeDeferred hK, _, results_cellC tyBo rfl hp0 hcc, ?_⟩⟩
    exact ⟨_, dB (decide (x ∈ freeP l)), [], rfl, ⟨rfl, rfl⟩, hh6.drop.drop.drop.drop, by rw [decide_eq_true hmem]; exact c5⟩⟩
theorem is32_p (l : Cx) (G : GoodX l) (x : Cl) : Fn Tryz.prog 48 [dS Cpx l, dS Col x] (dB (decide (x ∈ pairsC l))) := by
  have e : decide (x ∈ freeP l) = decide (x ∈ pairsC l) := decide_eq_decide.2 (free_mem G)
  rw [← e]
  refine Fn.ofC (is32_k l G x) fun d hp2 ⟨h1, h2⟩ => ?_
  subst h1
  exact FinD.mk fun _ hd => (hd : _)
end Go.Proofs.YtjbepoofigokjaaGreat
