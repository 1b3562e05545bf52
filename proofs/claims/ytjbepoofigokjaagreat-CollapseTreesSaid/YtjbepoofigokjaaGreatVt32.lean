/-
  Part 32 of the texts that the claims of this seat lean on: walks of the program's functions by contracts over symbolic frames, and plain laws of what they compute. No condition.
-/
import Derived.Test.YtjbepoofigokjaaGreatVt15
import Derived.Test.YtjbepoofigokjaaGreatVt18
import Derived.Test.YtjbepoofigokjaaGreatVt24
import Derived.Test.YtjbepoofigokjaaGreatVt26
import Derived.Test.YtjbepoofigokjaaGreatVt31
set_option linter.unusedVariables false
set_option linter.unusedSimpArgs false
set_option linter.unusedSectionVars false
namespace Go.Proofs.YtjbepoofigokjaaGreat
open Go.RowKit
set_option linter.unusedSimpArgs false

set_option maxHeartbeats 2000000
set_option maxRecDepth 100000
theorem WC.knowRow' {P : Program} {hp : List HObj} {fr : List Dat} {Q : Post} {c : Code} {α : Type} {R : Rel α} {_gR : Good R} {v : Value} {e : TypeId} {xs : List α} (hm : hRow v e R xs ∈ hp) (h : ∀ a k, v = .slice a xs.length k → xs.length ≤ k → WC P Q c fr hp) : WC P Q c fr hp := WC.of fun _ _ _ _ _ hh hf => by
  obtain ⟨a, k, h1, h2, _⟩ := Own.arr (hh.ok _ hm)
  exact (h a k h1 h2).on hh hf
theorem SY.cutX {P : Program} {ops : Array Oper} {hp : List HObj} {fr : List Dat} {dst : Option Tmp} {ty : TypeId} {ps : String} {af : Array Edge} {g : Option (Nat × Bool)} {t e : TypeId} {bytes : Nat} {z : Value} {ag : Bool} {x y : Operand} {ad : Option Addr} {n m l : Nat} (E : ElT P t e 1 z bytes ag) (hx : OpD fr x (dX (.slice ad n m))) (hy : OpD fr y (dI (l : Int))) (hl : l ≤ n) (hm : n ≤ m) :
    SY P ops hp { dst := dst, op := .slice t x none (some y) none, type := ty, pos := ps, after := af, guard := g } fr (dX (.slice ad l m)) := SY.val fun {I w a} ho => by
  have h1 : a.eval x = _ := hx.get (by simp [Op.operands]) ho
  have h2 : a.eval y = _ := hy.get (by simp [Op.operands]) ho
  refine ⟨_, ?_, rfl⟩
  have hr := run_slice (w := w) (ad := ad) (len := n) (cap := m) (lo := none) (hi := some (.int .i64 (l : Int))) (l := 0) (h := l) E (.inl ⟨rfl, rfl⟩) (.inr ⟨_, rfl⟩) (by omega) (by omega)
  have e1 : (if m = 0 then ad else ad.map (·.add (0 * 1))) = ad := by
    split
    · rfl
    · cases ad with
      | none => rfl
      | some b => cases b; simp [Addr.add]
  rw [e1] at hr
  unfold execOp
  simp only [h1, h2, Option.map_none, Option.map_some, Sem.run_bind, hr, Result.andThen_ok, Sem.run_pure]
  simp
theorem ArgH.cut {hp : List HObj} {e : TypeId} {α : Type} {R : Rel α} {_gR : Good R} {ad : Option Addr} {n c l : Nat} {xs ys : List α} (h : hRow (.slice ad n c) e R xs ∈ hp) (hl : l ≤ xs.length) (hy : xs.take l = ys) : ArgH hp (dX (.slice ad l c)) (dS (Arr R) ys) := ArgH.mk fun hh hd => by
  cases (hd : _ = _)
  subst hy
  obtain ⟨a, k, h1, h2, h3, h4⟩ := (Own.arr (hh.ok _ h)).any
  cases h1
  refine ⟨ad, c, by rw [List.length_take, Nat.min_eq_left hl], by rw [List.length_take]; omega, h3, fun i hi => ?_⟩
  rw [List.length_take] at hi
  obtain ⟨u, b, off, r1, r2⟩ := h4 i (by omega)
  exact ⟨u, b, off, by rw [List.getElem_take]; exact r1, r2⟩
theorem faceB_in {y s : List Vx} (hy : chkV y = 0) (hs : chkV s = 0) : faceB y s = insideV y s := by
  unfold faceB
  rw [hy, hs, if_neg (by simp [orI])]
  apply bool_iff
  rw [decide_eq_true_eq, inside_mem]
  constructor
  · intro h v hv
    have h1 : (y.filter fun x => decide (x ∈ s)).length = y.length := by omega
    rw [List.length_filter_eq_length_iff] at h1
    exact of_decide_eq_true (h1 v hv)
  · intro h
    have h1 : (y.filter fun x => decide (x ∈ s)).length = y.length := List.length_filter_eq_length_iff.2 fun v hv => decide_eq_true (h v hv)
    omega
theorem tzS32 : TyZ Tryz.prog 34 (.slice none 0 0) := ⟨by kernel_rfl⟩
def aftP (l : Cx) (x : Cl) (y : List Vx) : Bool := !(restC l x).any (fun s => insideV y s) && decide (y ≠ x.1)
def aftN (l : Cx) (x : Cl) (k : Nat) : Cx := restC l x ++ ((List.range k).map (remV x.2)).filter (aftP l x)
theorem aftN_zero (l : Cx) (x : Cl) : aftN l x 0 = restC l x := List.append_nil _
theorem aftN_all (l : Cx) (x : Cl) : aftN l x x.2.length = aftL l x := rfl
theorem aftN_succ (l : Cx) (x : Cl) (k : Nat) : aftN l x (k + 1) = aftN l x k ++ if aftP l x (remV x.2 k) = true then [remV x.2 k] else [] := by
  unfold aftN
  rw [List.range_succ, List.map_append, List.filter_append, List.append_assoc]
  congr 2
  show [remV x.2 k].filter _ = _
  by_cases h : aftP l x (remV x.2 k) = true
  · rw [if_pos h, List.filter_cons_of_pos h]; rfl
  · rw [if_neg h, List.filter_cons_of_neg h]; rfl
theorem rest_snoc {l : Cx} {x : Cl} {k : Nat} (h : k < l.length) : restC (l.take (k + 1)) x = restC (l.take k) x ++ if l[k] ≠ x.2 then [l[k]] else [] := by
  unfold restC
  rw [take_snoc' h, List.filter_append]
  congr 1
  by_cases hp : l[k] ≠ x.2
  · rw [if_pos hp, List.filter_cons_of_pos (by simpa using hp)]; rfl
  · rw [if_neg hp, List.filter_cons_of_neg (by simpa using hp)]; rfl
theorem aftN_take (l : Cx) (x : Cl) (k : Nat) : (aftN l x k).take (restC l x).length = restC l x := List.take_left' rfl
theorem aftN_len (l : Cx) (x : Cl) (k : Nat) : (restC l x).length ≤ (aftN l x k).length ∧ (aftN l x k).length ≤ (restC l x).length + k := by
  have h := List.length_filter_le (aftP l x) ((List.range k).map (remV x.2))
  rw [List.length_map, List.length_range] at h
  unfold aftN
  rw [List.length_append]
  omega
set_option maxHeartbeats 16000000 in
theorem after32_p (l : Cx) (G : GoodX l) (y : Cl) (hy : PairOk l y) (hw : (leftC l y).length ≤ 4096) : Fn Tryz.prog 49 [dS Cpx l, dS Col y] (dT [dS Cpx (leftC l y), dI 0]) := by
  (refine Fn.introC2 tyC Tryz.func49 rfl rfl ?_; simp only [Tryz.ntmps49, List.length_cons, List.length_nil, Nat.reduceAdd, Nat.reduceSub, List.replicate_succ, List.replicate_zero, List.cons_append, List.nil_append])
  have hll := G.1
  have py := chk_len hy.chk2
  have hyl := hy.len
  have px := chk_len hy.chk1
  (repeat' (first | ((first | apply WL.opN | apply WD.opN); exact yF; dsimp only [setD, z0, z1]) | refine WL.nil ?_ | refine WC.seqK fun Kx hK => ?_ | (refine hK _ _ ?_; clear hK) | refine WC.region ?_ |  (refine WL.alloc tzC (shape_C0 rfl) fun b4 => ?_; dsimp only [setD, z0, z1]) | ((first | apply WL.opG | apply WD.op); (focus (first | exact wN | (apply SYG.yes; (exact wY); ((first | (apply SY.len; (exact oD); (exact nD); (exact uD)) | (apply SY.fldC cpxT; exact OpD.t rfl) | (apply SY.box; (exact oD); (exact hD)) | fail); all_goals infer_instance)))); dsimp only [setD, z0, z1]) | refine WC.block ?_))
  rename Nat => b6
  refine WC.nilRow 34 Verts ?_
  have c3 : ∀ k (h : k < l.length), Fn Tryz.prog 89 [dS Verts l[k]] (dS Verts l[k]) := fun k h => cloneV_p _ (by have := (chk_len (G.2.2.1 _ (List.getElem_mem h))).2; omega)
  (refine WC.loopU (X := Nat × Value × Cx) (fun x => [(16, dI (x.1 : Int)), (8, dA), (17, dA), (18, dA), (19, dA), (20, dA), (21, dA), (22, dA), (23, dA), (24, dA), (25, dA), (26, dA), (27, dA), (28, dA), (29, dA), (30, dA), (31, dA), (32, dA)]) (fun x => (hRow x.2.1 34 Verts x.2.2 :: hC1 b6 24 x.2.1 :: hCell b4 24 1 true (dX (.agg #[.slice none 0 0])) :: [])) (fun x => l.length - x.1) (fun x => x.1 ≤ l.length ∧ x.2.2 = restC (l.take x.1) y) (0, .slice none 0 0, []) ?start ?frame0 ?objs0 ?round)
  case start => exact ⟨Nat.zero_le _, rfl⟩
  case frame0 => ((try dsimp only [upds, z0, z1]); repeat (first | exact LeF.nil | refine LeF.co (k := ?_)))
  case objs0 => rfl
  case round =>
    rintro ⟨k, v, o⟩ ⟨h1, h2⟩
    simp only at h1 h2
    have hol : o.length ≤ 1000000 := by
      have h3 : (restC (l.take k) y).length ≤ (l.take k).length := List.length_filter_le _ _
      rw [h2]
      rw [List.length_take] at h3
      omega
    dsimp only [upds, z0, z1]
    by_cases hk : k < l.length
    · have c1 := cmpL_p l[k] y.2
      have c3k := c3 k hk
      have er := rest_snoc (x := y) hk
      by_cases hne : l[k] = y.2
      · rw [cmpL_eq.2 hne] at c1
        rw [if_neg (by simpa using hne), List.append_nil] at er
        ((repeat' (first | ((first | apply WL.opN | apply WD.opN); exact yF; dsimp only [setD, z0, z1]) | refine WL.nil ?_ | refine WC.seqK fun Kx hK => ?_ | (refine hK _ _ ?_; clear hK) | refine WC.region ?_ | ((first | apply WL.opG | apply WD.op); (focus (first | exact wN | (apply SYG.yes; (exact wY); ((first | (apply SY.call (c1) Tryz.call66; (exact aD)) | ((first | apply SY.move | apply SY.assign | apply SY.lss | apply SY.gtr | apply SY.neq | apply SY.not) <;> (exact oD)) | ((first | apply SY.add) <;> first | exact oD | omega) | (apply SY.ix; (exact eD); (exact oD); (exact oD); exact kD) | (apply SY.fldP0 colT; exact OpD.t rfl) | (apply SY.fldP1 colT; exact OpD.t rfl) | fail); all_goals infer_instance)))); dsimp only [setD, z0, z1]) | (apply WC.condD; (exact oD); all_goals (intro h; try exact xD)) | (apply WC.condN; (exact oD); all_goals (intro h; try exact xD)) | refine WC.skip ?_ | refine WC.block ?_ | refine ThenD.n ?_)); all_goals (first | ((repeat clear hK); (repeat clear Kx))))
        all_goals first | (exfalso; omega) | skip
        (refine ⟨(k + 1, v, o), ?_, by first | omega | (simp only; omega), rfl, ?_⟩; rotate_left; ((try dsimp only [upds, z0, z1]); repeat (first | exact LeF.nil | refine LeF.co (k := ?_))); (try dsimp only))
        exact ⟨by show k + 1 ≤ _; omega, by show o = _; rw [er]; exact h2⟩
      · have hc : cmpL l[k] y.2 ≠ 0 := fun q => hne (cmpL_eq.1 q)
        rw [if_pos hne] at er
        ((repeat' (first |  (apply WC.drawTail 5; kernel_rfl; kernel_rfl; simp only [List.take_succ_cons, List.take_zero, List.drop_succ_cons, List.drop_zero]) | ((first | apply WL.opN | apply WD.opN); exact yF; dsimp only [setD, z0, z1]) | refine WL.nil ?_ | refine WD.nil ?_ | refine WC.seqK fun Kx hK => ?_ | (refine hK _ _ ?_; clear hK) | refine WC.region ?_ |  (refine WL.perm (List.Perm.swap _ _ _) ?_; refine WL.storeC1 tySS (OpD.t rfl) (OpD.t rfl) (.head _) ?_; refine WL.perm (List.Perm.swap _ _ _) ?_; dsimp only [setD, z0, z1]) | ((first | apply WL.appK | apply WL.app1); (exact eD); exact OpD.t rfl; (exact oD); decide; (exact lD); (intro _; dsimp only [setD, z0, z1]); all_goals (try infer_instance)) | ((first | apply WL.opG | apply WD.op); (focus (first | exact wN | (apply SYG.yes; (exact wY); ((first | (apply SY.call (c1) Tryz.call66; (exact aD)) | (apply SY.call (c3k) Tryz.call89; (exact aD)) | (apply SY.fldX cpxT; exact OpD.t rfl) | (apply SY.loadC1 tySS; exact OpD.t rfl; exact .tail _ (.head _)) | ((first | apply SY.move | apply SY.assign | apply SY.lss | apply SY.gtr | apply SY.neq | apply SY.not) <;> (exact oD)) | ((first | apply SY.add) <;> first | exact oD | omega) | (apply SY.ix; (exact eD); (exact oD); (exact oD); exact kD) | (apply SY.fldP0 colT; exact OpD.t rfl) | (apply SY.fldP1 colT; exact OpD.t rfl) | (apply SY.build1'; (exact eD); ((try simp only [List.map_cons, List.map_nil]); (repeat (first | exact ElsD.nl | (apply ElsD.cn; (first | exact OpD.t rfl | exact OpD.i | exact OpD.b | exact OpD.tle rfl (by first | exact Dat.le_nil | exact Dat.le_nilK (by decide)) | exact ⟨Dat.le_nil⟩ | exact ⟨Dat.le_nilK (by decide)⟩))))); rfl; rfl; (intro _; first | exact shape_K | exact shape_I | exact shape_A | exact shape_B); (exact (by simp))) | fail); all_goals infer_instance)))); dsimp only [setD, z0, z1]) | (apply WC.condD; (exact oD); all_goals (intro h; try exact xD)) | (apply WC.condN; (exact oD); all_goals (intro h; try exact xD)) | refine WC.skip ?_ | refine WC.block ?_ | refine ThenD.n ?_)); all_goals (first | ((repeat clear hK); (repeat clear Kx))))
        all_goals first | (exfalso; omega) | skip
        rename_i v'
        (refine ⟨(k + 1, v', o ++ [l[k]]), ?_, by first | omega | (simp only; omega), rfl, ?_⟩; rotate_left; ((try dsimp only [upds, z0, z1]); repeat (first | exact LeF.nil | refine LeF.co (k := ?_))); (try dsimp only))
        exact ⟨by show k + 1 ≤ _; omega, by show o ++ _ = _; rw [er, h2]⟩
    · rw [List.take_of_length_le (by omega)] at h2
      subst h2
      (repeat' (first | ((first | apply WL.opN | apply WD.opN); exact yF; dsimp only [setD, z0, z1]) | refine WL.nil ?_ | refine WC.seqK fun Kx hK => ?_ | (refine hK _ _ ?_; clear hK) | (refine Kont.skip ?_; clear hK) | refine WC.region ?_ | ((first | apply WL.opG | apply WD.op); (focus (first | exact wN | (apply SYG.yes; (exact wY); ((first | (apply SY.fldX cpxT; exact OpD.t rfl) | (apply SY.loadC1 tySS; exact OpD.t rfl; exact .tail _ (.head _)) | ((first | apply SY.move | apply SY.assign | apply SY.lss | apply SY.gtr | apply SY.neq | apply SY.not) <;> (exact oD)) | (apply SY.len; (exact oD); (exact nD); (exact uD)) | (apply SY.lenR; exact OpD.t rfl; (first | exact .head _ | exact .tail _ (.head _)); (exact uD)) | (apply SY.fldP0 colT; exact OpD.t rfl) | (apply SY.fldP1 colT; exact OpD.t rfl) | fail); all_goals infer_instance)))); dsimp only [setD, z0, z1]) | (apply WC.condD; (exact oD); all_goals (intro h; try exact xD)) | refine WC.exit ?_ | refine WC.block ?_))
      all_goals first | (exfalso; omega) | skip
      have hrl : (restC l y).length ≤ l.length := List.length_filter_le _ _
      (refine WC.loopU (X := Nat × Value × Cx) (fun x => [(39, dI (x.1 : Int)), (10, dA), (11, dA), (12, dA), (40, dA), (41, dA), (42, dA), (43, dA), (44, dA), (45, dA), (46, dA), (47, dA), (48, dA), (49, dA), (50, dA), (51, dA), (52, dA), (53, dA), (54, dA), (55, dA), (56, dA), (57, dA), (58, dA), (59, dA), (60, dA), (61, dA), (62, dA), (63, dA), (64, dA), (65, dA), (66, dA), (67, dA)]) (fun x => (hRow x.2.1 34 Verts x.2.2 :: hC1 b6 24 x.2.1 :: hCell b4 24 1 true (dX (.agg #[.slice none 0 0])) :: [])) (fun x => y.2.length - x.1) (fun x => x.1 ≤ y.2.length ∧ x.2.2 = aftN l y x.1) (0, v, restC l y) ?start ?frame0 ?objs0 ?round)
      case start => exact ⟨Nat.zero_le _, (aftN_zero l y).symm⟩
      case frame0 => ((try dsimp only [upds, z0, z1]); repeat (first | exact LeF.nil | refine LeF.co (k := ?_)))
      case objs0 => rfl
      case round =>
        rintro ⟨j, u, o⟩ ⟨q1, q2⟩
        simp only at q1 q2
        obtain ⟨n1, n2⟩ := aftN_len l y j
        have htk := aftN_take l y j
        rw [← q2] at n1 n2 htk
        dsimp only [upds, z0, z1]
        by_cases hj : j < y.2.length
        · have hck := rem_chk hy.chk2 hj (by omega)
          have hcl := (chk_len hck).2
          have c1 := without32_p y.2 j hj (by omega)
          have c4 := cmpL_p (remV y.2 j) y.1
          have hl100 : (remV y.2 j).length ≤ 100 := by omega
          have c5 := cntS_p (restC l y) (faceB (remV y.2 j))
          have eany : (restC l y).any (faceB (remV y.2 j)) = (restC l y).any (fun s => insideV (remV y.2 j) s) := by
            apply bool_iff
            rw [List.any_eq_true, List.any_eq_true]
            exact exists_congr fun s => and_congr_right fun hs => by rw [faceB_in hck (G.2.2.1 s (List.mem_filter.1 hs).1)]
          rw [eany] at c5
          have es := aftN_succ l y j
          rw [← q2] at es
          unfold aftP at es
          refine WC.knowRow' (.head _) fun ad c hu hc => ?_
          subst hu
          have hol2 : o.length ≤ 1000000 := by omega
          generalize (restC l y).any (fun s => insideV (remV y.2 j) s) = cv at *
          cases cv with
          | true =>
            rw [show (!true && decide (remV y.2 j ≠ y.1)) = false from rfl, if_neg (by decide), List.append_nil] at es
            ((repeat' (first | ((first | apply WL.opN | apply WD.opN); exact yF; dsimp only [setD, z0, z1]) | refine WL.nil ?_ | refine WC.seqK fun Kx hK => ?_ | (refine hK _ _ ?_; clear hK) | refine WC.region ?_ |  (apply WL.alloc tzS32; exact shape_X rfl; (intro b11; dsimp only [setD, z0, z1])) |  (apply WL.storeF tySi; exact rfl; exact OpD.t rfl; exact shape_K; dsimp only [setD, z0, z1]) | ((first | apply WL.opG | apply WD.op); (focus (first | exact wN | (apply SYG.yes; (exact wY); ((first | (apply SY.call (c1) Tryz.call90; (exact aD)) | (apply SY.fldX cpxT; exact OpD.t rfl) | (apply SY.loadC1 tySS; exact OpD.t rfl; exact .tail _ (.head _)) | (apply SY.cutX elSi; exact OpD.t rfl; exact OpD.t rfl; exact n1; exact hc) | (apply SY.makeFun (A := fun v : MemS (restC l y) => [dS Verts v.1]) (r := fun v => dB (faceB (remV y.2 j) v.1)) Tryz.call92 (fun v => after1_p v.1 (remV y.2 j) hl100) (fun _ => bare_B); (exact aD)) | (apply SY.callB c5 bare_B Tryz.call91; exact ArgsH.cons (OpD.t rfl) (ArgH.cut (.head _) n1 htk) (ArgsH.cons (OpD.t rfl) (ArgH.le (Dat.le_refl _)) ArgsH.nil)) | ((first | apply SY.move | apply SY.assign | apply SY.lss | apply SY.gtr | apply SY.neq | apply SY.not) <;> (exact oD)) | ((first | apply SY.add) <;> first | exact oD | omega) | (apply SY.fldP0 colT; exact OpD.t rfl) | (apply SY.fldP1 colT; exact OpD.t rfl) | (apply SY.pickF; (exact oD); (with_reducible rfl); (exact oD)) | fail); all_goals infer_instance)))); dsimp only [setD, z0, z1]) | ((first | refine WL.caseP rfl rfl rfl (fun h => ?_) (fun h => ?_) | refine WL.caseN rfl rfl rfl (fun h => ?_) (fun h => ?_) | refine WL.caseB rfl rfl rfl (fun h => ?_) (fun h => ?_) | refine WD.caseP rfl rfl rfl (fun h => ?_) (fun h => ?_) | refine WD.caseN rfl rfl rfl (fun h => ?_) (fun h => ?_) | refine WD.caseB rfl rfl rfl (fun h => ?_) (fun h => ?_)) <;> (first | (exfalso; first | omega | contradiction) | (dsimp only [z0, z1]))) | (apply WC.condF; (exact oD); (with_reducible rfl)) | (apply WC.condD; (exact oD); all_goals (intro h; try exact xD)) | refine WC.skip ?_ | refine WC.block ?_ | refine ThenD.n ?_)); all_goals (first | ((repeat clear hK); (repeat clear Kx))))
            all_goals first | (exfalso; omega) | skip
            (refine ⟨(j + 1, _, o), ?_, by first | omega | (simp only; omega), rfl, ?_⟩; rotate_left; ((try dsimp only [upds, z0, z1]); repeat (first | exact LeF.nil | refine LeF.co (k := ?_))); (try dsimp only))
            exact ⟨by show j + 1 ≤ _; omega, es.symm⟩
          | false =>
            by_cases hne : remV y.2 j = y.1
            · rw [cmpL_eq.2 hne] at c4
              rw [if_neg (by simp [hne]), List.append_nil] at es
              ((repeat' (first | ((first | apply WL.opN | apply WD.opN); exact yF; dsimp only [setD, z0, z1]) | refine WL.nil ?_ | refine WC.seqK fun Kx hK => ?_ | (refine hK _ _ ?_; clear hK) | refine WC.region ?_ |  (apply WL.alloc tzS32; exact shape_X rfl; (intro b11; dsimp only [setD, z0, z1])) |  (apply WL.storeF tySi; exact rfl; exact OpD.t rfl; exact shape_K; dsimp only [setD, z0, z1]) | ((first | apply WL.opG | apply WD.op); (focus (first | exact wN | (apply SYG.yes; (exact wY); ((first | (apply SY.call (c1) Tryz.call90; (exact aD)) | (apply SY.call (c4) Tryz.call66; (exact aD)) | (apply SY.fldX cpxT; exact OpD.t rfl) | (apply SY.loadC1 tySS; exact OpD.t rfl; exact .tail _ (.head _)) | (apply SY.cutX elSi; exact OpD.t rfl; exact OpD.t rfl; exact n1; exact hc) | (apply SY.makeFun (A := fun v : MemS (restC l y) => [dS Verts v.1]) (r := fun v => dB (faceB (remV y.2 j) v.1)) Tryz.call92 (fun v => after1_p v.1 (remV y.2 j) hl100) (fun _ => bare_B); (exact aD)) | (apply SY.callB c5 bare_B Tryz.call91; exact ArgsH.cons (OpD.t rfl) (ArgH.cut (.head _) n1 htk) (ArgsH.cons (OpD.t rfl) (ArgH.le (Dat.le_refl _)) ArgsH.nil)) | ((first | apply SY.move | apply SY.assign | apply SY.lss | apply SY.gtr | apply SY.neq | apply SY.not) <;> (exact oD)) | ((first | apply SY.add) <;> first | exact oD | omega) | (apply SY.load; (exact tD); (exact oD)) | (apply SY.fldP0 colT; exact OpD.t rfl) | (apply SY.fldP1 colT; exact OpD.t rfl) | (apply SY.pickT; (exact oD); (with_reducible rfl); (exact oD)) | fail); all_goals infer_instance)))); dsimp only [setD, z0, z1]) | ((first | refine WL.caseP rfl rfl rfl (fun h => ?_) (fun h => ?_) | refine WL.caseN rfl rfl rfl (fun h => ?_) (fun h => ?_) | refine WL.caseB rfl rfl rfl (fun h => ?_) (fun h => ?_) | refine WD.caseP rfl rfl rfl (fun h => ?_) (fun h => ?_) | refine WD.caseN rfl rfl rfl (fun h => ?_) (fun h => ?_) | refine WD.caseB rfl rfl rfl (fun h => ?_) (fun h => ?_)) <;> (first | (exfalso; first | omega | contradiction) | (dsimp only [z0, z1]))) | (apply WC.condD; (exact oD); all_goals (intro h; try exact xD)) | (apply WC.condN; (exact oD); all_goals (intro h; try exact xD)) | refine WC.skip ?_ | refine WC.block ?_ | refine ThenD.n ?_)); all_goals (first | ((repeat clear hK); (repeat clear Kx))))
              all_goals first | (exfalso; omega) | skip
              (refine ⟨(j + 1, _, o), ?_, by first | omega | (simp only; omega), rfl, ?_⟩; rotate_left; ((try dsimp only [upds, z0, z1]); repeat (first | exact LeF.nil | refine LeF.co (k := ?_))); (try dsimp only))
              exact ⟨by show j + 1 ≤ _; omega, es.symm⟩
            · have hcn : cmpL (remV y.2 j) y.1 ≠ 0 := fun q => hne (cmpL_eq.1 q)
              rw [if_pos (by simp [hne])] at es
              ((repeat' (first | ((first | apply WL.opN | apply WD.opN); exact yF; dsimp only [setD, z0, z1]) | refine WL.nil ?_ | refine WC.seqK fun Kx hK => ?_ | (refine hK _ _ ?_; clear hK) | refine WC.region ?_ |  (apply WL.alloc tzS32; exact shape_X rfl; (intro b11; dsimp only [setD, z0, z1])) |  (apply WL.storeF tySi; exact rfl; exact OpD.t rfl; exact shape_K; dsimp only [setD, z0, z1]) |  (refine WL.perm (List.Perm.swap _ _ _) ?_; refine WL.storeC1 tySS (OpD.t rfl) (OpD.t rfl) (.head _) ?_; refine WL.perm (List.Perm.swap _ _ _) ?_; dsimp only [setD, z0, z1]) | ((first | apply WL.pushK | apply WL.push1); (exact eD); exact OpD.t rfl; (exact oD); (intro _; exact hD); (exact (by simp)); (exact (by simp)); (first | exact ⟨by decide, by decide⟩ | skip); decide; (exact lD); (intro _; dsimp only [setD, z0, z1]); all_goals (try infer_instance)) | ((first | apply WL.opG | apply WD.op); (focus (first | exact wN | (apply SYG.yes; (exact wY); ((first | (apply SY.call (c1) Tryz.call90; (exact aD)) | (apply SY.call (c4) Tryz.call66; (exact aD)) | (apply SY.fldX cpxT; exact OpD.t rfl) | (apply SY.loadC1 tySS; exact OpD.t rfl; exact .tail _ (.head _)) | (apply SY.cutX elSi; exact OpD.t rfl; exact OpD.t rfl; exact n1; exact hc) | (apply SY.makeFun (A := fun v : MemS (restC l y) => [dS Verts v.1]) (r := fun v => dB (faceB (remV y.2 j) v.1)) Tryz.call92 (fun v => after1_p v.1 (remV y.2 j) hl100) (fun _ => bare_B); (exact aD)) | (apply SY.callB c5 bare_B Tryz.call91; exact ArgsH.cons (OpD.t rfl) (ArgH.cut (.head _) n1 htk) (ArgsH.cons (OpD.t rfl) (ArgH.le (Dat.le_refl _)) ArgsH.nil)) | ((first | apply SY.move | apply SY.assign | apply SY.lss | apply SY.gtr | apply SY.neq | apply SY.not) <;> (exact oD)) | ((first | apply SY.add) <;> first | exact oD | omega) | (apply SY.load; (exact tD); (exact oD)) | (apply SY.fldP0 colT; exact OpD.t rfl) | (apply SY.fldP1 colT; exact OpD.t rfl) | (apply SY.pickT; (exact oD); (with_reducible rfl); (exact oD)) | fail); all_goals infer_instance)))); dsimp only [setD, z0, z1]) | ((first | refine WL.caseP rfl rfl rfl (fun h => ?_) (fun h => ?_) | refine WL.caseN rfl rfl rfl (fun h => ?_) (fun h => ?_) | refine WL.caseB rfl rfl rfl (fun h => ?_) (fun h => ?_) | refine WD.caseP rfl rfl rfl (fun h => ?_) (fun h => ?_) | refine WD.caseN rfl rfl rfl (fun h => ?_) (fun h => ?_) | refine WD.caseB rfl rfl rfl (fun h => ?_) (fun h => ?_)) <;> (first | (exfalso; first | omega | contradiction) | (dsimp only [z0, z1]))) | (apply WC.condD; (exact oD); all_goals (intro h; try exact xD)) | (apply WC.condN; (exact oD); all_goals (intro h; try exact xD)) | refine WC.skip ?_ | refine WC.block ?_ | refine ThenD.n ?_)); all_goals (first | ((repeat clear hK); (repeat clear Kx))))
              all_goals first | (exfalso; omega) | skip
              rename_i v'
              (refine ⟨(j + 1, v', o ++ [remV y.2 j]), ?_, by first | omega | (simp only; omega), rfl, ?_⟩; rotate_left; ((try dsimp only [upds, z0, z1]); repeat (first | exact LeF.nil | refine LeF.co (k := ?_))); (try dsimp only))
              exact ⟨by show j + 1 ≤ _; omega, es.symm⟩
        · obtain rfl : j = y.2.length := by omega
          rw [aftN_all] at q2
          subst q2
          have ha4 : (aftL l y).length ≤ 4096 := Nat.le_trans (List.Nodup.length_le_of_subset (aft_nodup G hy) fun t ht => (aft_mem G hy).1 ht) hw
          ((repeat' (first | ((first | apply WL.opN | apply WD.opN); exact yF; dsimp only [setD, z0, z1]) | refine WL.nil ?_ | refine WC.seqK fun Kx hK => ?_ | (refine hK _ _ ?_; clear hK) | (refine Kont.skip ?_; clear hK) | refine WC.region ?_ |  (refine WL.sortS (OpD.t rfl) (by omega) fun ys hys hso => ?_; obtain rfl := aft_sorted G hy hys hso; refine WL.knowRow (.head _) _root_.id fun hv => ?_; obtain ⟨ad, cc, rfl⟩ := hv; dsimp only [setD, z0, z1]) |  (apply WL.storeF3 tyC; rfl; exact OpD.t rfl; exact shape_C0 rfl; dsimp only [setD, z0, z1]) | ((first | apply WL.opG | apply WD.op); (focus (first | exact wN | (apply SYG.yes; (exact wY); ((first | (apply SY.fldX cpxT; exact OpD.t rfl) | (apply SY.loadC1 tySS; exact OpD.t rfl; exact .tail _ (.head _)) | (apply SY.loadH tyC; exact OpD.t rfl; exact .tail _ (.head _)) | ((first | apply SY.move | apply SY.assign | apply SY.lss | apply SY.gtr | apply SY.neq | apply SY.not) <;> (exact oD)) | (apply SY.lenR; exact OpD.t rfl; (first | exact .head _ | exact .tail _ (.head _)); (exact uD)) | fail); all_goals infer_instance)))); dsimp only [setD, z0, z1]) | (apply WC.condD; (exact oD); all_goals (intro h; try exact xD)) | refine WC.skip ?_ | refine WC.ret ?_ | refine WC.exit ?_)); all_goals (first | ((repeat clear hK); (repeat clear Kx))))
          all_goals first | (exfalso; omega) | skip
          exact ⟨trivial, ⟨_, rfl, FinD.rowC (.head _)⟩, _, rfl, FinD.le (Dat.le_refl _)⟩
end Go.Proofs.YtjbepoofigokjaaGreat
namespace Go.Proofs.YtjbepoofigokjaaGreat
open Go.RowKit
set_option linter.unusedSimpArgs false

set_option maxHeartbeats 2000000
set_option maxRecDepth 100000
def redK (l : Cx) : Cx × List Cl × Int := if chkC l ≠ 0 then ([], [], chkC l) else if 4096 < wholeN l 8 then ([], [], 17) else ((reducedC l).1, (reducedC l).2, 0)
def stepsV (c : Cx) : List Cl → Option Cx
  | [] => some c
  | x :: m => if x ∈ pairsC c then stepsV (leftC c x) m else none
def verK (l : Cx) (m : List Cl) (d : Cx) : Int := if chkC l ≠ 0 then chkC l else if chkC d ≠ 0 then chkC d else if 4096 < m.length then 5 else if stepsV l m = some d then 0 else 18
def collK (l : Cx) : Int × List Cl × Int := if (redK l).2.2 ≠ 0 then (0, [], (redK l).2.2) else if (redK l).1.length = 1 ∧ ((redK l).1.getD 0 []).length = 1 then (1, (redK l).2.1, 0) else if connC l = false ∨ (eulC l).1 ≠ 1 then (2, [], 0) else (0, [], 0)
theorem redK_good {l : Cx} (h : (redK l).2.2 = 0) : chkC l = 0 := by
  unfold redK at h
  by_cases h0 : chkC l = 0
  · exact h0
  · rw [if_pos h0] at h; exact h
end Go.Proofs.YtjbepoofigokjaaGreat
namespace Go.Proofs.YtjbepoofigokjaaGreat
def subsN (s : List Vx) : Cx := (List.range 8).flatMap fun k => subsV (k + 1) s
theorem choose_sum : ∀ n ≤ 8, ((List.range 8).map fun k => chooseN n (k + 1)).sum ≤ 2 ^ n := by decide
theorem len_flat {α : Type} (f : α → Cx) : ∀ l : List α, (l.flatMap f).length = (l.map fun s => (f s).length).sum
  | [] => rfl
  | s :: l => by rw [List.flatMap_cons, List.length_append, len_flat f l, List.map_cons, List.sum_cons]
theorem subsN_len {s : List Vx} (h : s.length ≤ 8) : (subsN s).length ≤ 2 ^ s.length := by
  unfold subsN
  rw [len_flat]
  have e : (List.range 8).map (fun k => (subsV (k + 1) s).length) = (List.range 8).map fun k => chooseN s.length (k + 1) := List.map_congr_left fun k _ => subs_choose s (k + 1)
  rw [e]
  exact choose_sum _ h
theorem flat_pow : ∀ {l : Cx}, (∀ s ∈ l, s.length ≤ 8) → (l.flatMap subsN).length ≤ powN l
  | [], _ => Nat.le_refl _
  | s :: l, h => by
    have h1 := subsN_len (h s (List.mem_cons_self ..))
    have h2 := flat_pow (l := l) fun t ht => h t (List.mem_cons_of_mem _ ht)
    have e : powN (s :: l) = 2 ^ s.length + powN l := by unfold powN; rw [List.map_cons, List.sum_cons]
    rw [List.flatMap_cons, List.length_append, e]
    omega
theorem whole_pow {l : Cx} (hl : ∀ s ∈ l, chkV s = 0) : wholeN l 8 ≤ powN l := by
  rw [← wholeN_up]
  refine Nat.le_trans (List.Nodup.length_le_of_subset (upC_nodup (fun s hs => (chkV_zero.1 (hl s hs)).2.2.2) 8) fun x hx => ?_) (flat_pow fun s hs => (chk_len (hl s hs)).2)
  obtain ⟨j, h1, h2, h3⟩ := upC_mem.1 hx
  obtain ⟨f, hf, hm⟩ := allC_mem.1 h3
  refine List.mem_flatMap.2 ⟨f, hf, List.mem_flatMap.2 ⟨j - 1, List.mem_range.2 (by omega), ?_⟩⟩
  rw [show j - 1 + 1 = j by omega]
  exact hm
end Go.Proofs.YtjbepoofigokjaaGreat
namespace Go.Proofs.YtjbepoofigokjaaGreat
theorem len_inj {α β : Type} [DecidableEq β] (R : α → β → Prop) : ∀ {A : List α} {B : List β}, A.Nodup → (∀ a ∈ A, ∃ b ∈ B, R a b) → (∀ a ∈ A, ∀ a' ∈ A, ∀ b, R a b → R a' b → a = a') → A.length ≤ B.length
  | [], _, _, _, _ => Nat.zero_le _
  | a :: A, B, hn, h1, h2 => by
    rw [List.nodup_cons] at hn
    obtain ⟨b, hb, hr⟩ := h1 a (List.mem_cons_self ..)
    have h := len_inj R (A := A) (B := B.erase b) hn.2 (fun a' ha' => by
      obtain ⟨b', hb', hr'⟩ := h1 a' (List.mem_cons_of_mem _ ha')
      refine ⟨b', (List.mem_erase_of_ne fun e => ?_).2 hb', hr'⟩
      subst e
      have := h2 a (List.mem_cons_self ..) a' (List.mem_cons_of_mem _ ha') _ hr hr'
      subst this
      exact hn.1 ha') (fun a' ha' a'' ha'' b' => h2 a' (List.mem_cons_of_mem _ ha') a'' (List.mem_cons_of_mem _ ha'') b')
    have h3 := List.length_erase_of_mem hb
    have h4 := List.length_pos_of_mem hb
    rw [List.length_cons]; omega
theorem parts_le {l m : Cx} (h : ∀ s ∈ l, ∃ v, (∃ t ∈ m, v ∈ t) ∧ (∃ t ∈ l, v ∈ t) ∧ repM (ufC l) v = rootC l s)
    (k : ∀ u v, (∃ t ∈ m, u ∈ t) → (∃ t ∈ l, u ∈ t) → (∃ t ∈ m, v ∈ t) → (∃ t ∈ l, v ∈ t) → Conn (edgC m) u v → Conn (edgC l) u v) : partsN l ≤ partsN m := by
  unfold partsN
  refine len_inj (fun r r' => ∃ v, (∃ t ∈ m, v ∈ t) ∧ (∃ t ∈ l, v ∈ t) ∧ repM (ufC l) v = r ∧ repM (ufC m) v = r') (dist_inv _).1 (fun r hr => ?_) fun r _ r' _ b ⟨v, v1, v2, v3, v4⟩ ⟨u, u1, u2, u3, u4⟩ => ?_
  · obtain ⟨s, hs, rfl⟩ := List.mem_map.1 (((dist_inv _).2 r).1 hr)
    obtain ⟨v, ⟨t, ht, hv⟩, h2, h3⟩ := h s hs
    exact ⟨rootC m t, root_mem ht, v, ⟨t, ht, hv⟩, h2, h3, rep_in ht hv⟩
  · rw [← v3, ← u3]
    exact (conn_iff (edgC l) _ _).2 (k v u v1 v2 u1 u2 ((conn_iff (edgC m) _ _).1 (v4.trans u4.symm)))
theorem conn_has {m : Cx} {t : List Vx} (h : hasC' m t = true) {a b : Vx} (ha : a ∈ t) (hb : b ∈ t) : Conn (edgC m) a b := by
  obtain ⟨f, hf, hi⟩ := hasC_iff.1 h
  exact (conn_iff (edgC m) _ _).1 ((rep_in hf (inside_mem.1 hi a ha)).trans (rep_in hf (inside_mem.1 hi b hb)).symm)
theorem asc_one (a : Vx) : Asc [a] := List.pairwise_singleton _ _
theorem has_self {l : Cx} {f : List Vx} (hf : f ∈ l) : hasC' l f = true := hasC_iff.2 ⟨f, hf, inside_self f⟩
section
variable {l : Cx} (G : GoodX l) {x : Cl} (hx : PairOk l x)
include G hx
theorem pair_rest : ∃ y, y ∈ x.2 ∧ y ∉ x.1 := by
  refine Classical.byContradiction fun hn => ?_
  have hs : ∀ v ∈ x.2, v ∈ x.1 := fun v hv => Classical.byContradiction fun h => hn ⟨v, hv, h⟩
  have := List.Nodup.length_le_of_subset (asc_nd (G.asc _ hx.mem)) hs
  have := hx.len
  omega
theorem not_face {f : List Vx} (hf : f ∈ l) (hne : f ≠ x.2) : f ≠ x.1 := fun e => hne (hx.one f hf (by rw [e]; exact inside_self _))
theorem keep_has {f : List Vx} (hf : f ∈ l) (hne : f ≠ x.2) : hasC' (leftC l x) f = true := (left_has G hx (G.asc f hf)).2 ⟨has_self hf, not_face G hx hf hne, hne⟩
theorem top_conn {y : Vx} (hy : y ∈ x.2) (hn : y ∉ x.1) {a : Vx} (ha : a ∈ x.2) (h1 : [a] ≠ x.1) : Conn (edgC (leftC l x)) a y := by
  by_cases e : a = y
  · subst e; exact .refl _
  have hasc : Asc (allV [a] [y]) := asc_allV (asc_one a)
  have hl : (allV [a] [y]).length = 2 := len_disj (asc_one a) (asc_one y) fun v hv h => e (by rw [List.mem_singleton] at hv h; rw [← hv, ← h])
  have hm : ∀ v, v ∈ allV [a] [y] ↔ v = a ∨ v = y := fun v => by rw [mem_allV, List.mem_singleton, List.mem_singleton]
  refine conn_has (t := allV [a] [y]) ((left_has G hx hasc).2 ⟨hasC_iff.2 ⟨x.2, hx.mem, inside_mem.2 fun v hv => ?_⟩, fun q => hn (by rw [← q]; exact (hm y).2 (.inr rfl)), fun q => ?_⟩) ((hm a).2 (.inl rfl)) ((hm y).2 (.inr rfl))
  · rcases (hm v).1 hv with rfl | rfl
    · exact ha
    · exact hy
  · have ln := hx.len
    rw [← q, hl] at ln
    obtain ⟨z, hz⟩ := List.length_eq_one_iff.1 (show x.1.length = 1 by omega)
    have hzm : z ∈ x.2 := hx.sub.subset (by rw [hz]; exact List.mem_singleton_self z)
    rw [← q] at hzm
    rcases (hm z).1 hzm with rfl | rfl
    · exact h1 hz.symm
    · exact hn (by rw [hz]; exact List.mem_singleton_self z)
theorem left_sub {s : List Vx} (hs : s ∈ leftC l x) : ∃ f ∈ l, insideV s f = true := by
  have h := ((left_has G hx ((chkV_zero.1 (left_chk G hx s hs)).2.2.2)).1 (has_self hs)).1
  exact hasC_iff.1 h
theorem left_pts {v : Vx} : (∃ t ∈ leftC l x, v ∈ t) ↔ (∃ t ∈ l, v ∈ t) ∧ [v] ≠ x.1 := by
  have ln := hx.len
  have p1 := chk_len hx.chk1
  have key := left_has G hx (t := [v]) (asc_one v)
  have hp : ∀ m : Cx, hasC' m [v] = true ↔ ∃ t ∈ m, v ∈ t := fun m => by
    rw [hasC_iff]
    constructor
    · rintro ⟨f, hf, hi⟩; exact ⟨f, hf, inside_mem.1 hi v (List.mem_singleton_self v)⟩
    · rintro ⟨f, hf, hi⟩; exact ⟨f, hf, inside_mem.2 fun u hu => by rw [List.mem_singleton.1 hu]; exact hi⟩
  rw [hp, hp] at key
  rw [key]
  constructor
  · rintro ⟨h1, h2, _⟩; exact ⟨h1, h2⟩
  · rintro ⟨h1, h2⟩; exact ⟨h1, h2, fun e => by rw [← e, List.length_singleton] at ln; omega⟩
theorem left_parts : partsN (leftC l x) = partsN l := by
  obtain ⟨y, hy, hn⟩ := pair_rest G hx
  have hyl : ∃ t ∈ l, y ∈ t := ⟨x.2, hx.mem, hy⟩
  have hy1 : [y] ≠ x.1 := fun e => hn (by rw [← e]; exact List.mem_singleton_self y)
  have hcl : ∀ u v, Conn (edgC (leftC l x)) u v → Conn (edgC l) u v := fun u v h => by
    have hedge : ∀ a b, (a, b) ∈ edgC (leftC l x) → Conn (edgC l) a b := fun a b hab => by
      obtain ⟨f, hf, h1, h2⟩ := edgC_mem.1 hab
      obtain ⟨g, hg, hi⟩ := left_sub G hx hf
      have hb : b ∈ f := List.mem_of_mem_drop h2
      have ha : a ∈ f := by rw [show a = hdV f from h1]; exact hd_mem (List.length_pos_of_mem hb)
      exact conn_has (t := g) (has_self hg) (inside_mem.1 hi a ha) (inside_mem.1 hi b hb)
    induction h with
    | refl => exact .refl _
    | step _ e ih => exact ih.trans (e.elim (hedge _ _) fun e => (hedge _ _ e).symm)
  let p : Vx → Vx := fun a => if [a] = x.1 then y else a
  have hp1 : ∀ a, [a] ≠ x.1 → p a = a := fun a h => if_neg h
  have hpt : ∀ a ∈ x.2, Conn (edgC (leftC l x)) (p a) y := fun a ha => by
    by_cases h : [a] = x.1
    · have : p a = y := if_pos h
      rw [this]; exact .refl _
    · rw [hp1 a h]; exact top_conn G hx hy hn ha h
  have hpe : ∀ a b, (a, b) ∈ edgC l → Conn (edgC (leftC l x)) (p a) (p b) := fun a b hab => by
    obtain ⟨f, hf, h1, h2⟩ := edgC_mem.1 hab
    have hb : b ∈ f := List.mem_of_mem_drop h2
    have ha : a ∈ f := by rw [show a = hdV f from h1]; exact hd_mem (List.length_pos_of_mem hb)
    by_cases hfx : f = x.2
    · subst hfx; exact (hpt a ha).trans (hpt b hb).symm
    · have hno : ∀ c ∈ f, [c] ≠ x.1 := fun c hc e => hfx (hx.one f hf (by rw [← e]; exact inside_mem.2 fun u hu => by rw [List.mem_singleton.1 hu]; exact hc))
      rw [hp1 a (hno a ha), hp1 b (hno b hb)]
      exact conn_has (keep_has G hx hf hfx) ha hb
  have hlc : ∀ u v, Conn (edgC l) u v → Conn (edgC (leftC l x)) (p u) (p v) := fun u v h => by
    induction h with
    | refl => exact .refl _
    | step _ e ih => exact ih.trans (e.elim (hpe _ _) fun e => (hpe _ _ e).symm)
  refine Nat.le_antisymm (parts_le (fun s hs => ?_) fun u v u1 u2 v1 v2 h => ?_) (parts_le (fun s hs => ?_) fun u v u1 u2 v1 v2 h => hcl u v h)
  · have hm := hd_mem (chk_len (left_chk G hx s hs)).1
    have h2 : ∃ t ∈ leftC l x, hdV s ∈ t := ⟨s, hs, hm⟩
    exact ⟨hdV s, ((left_pts G hx).1 h2).1, h2, rfl⟩
  · have := hlc u v h
    rwa [hp1 u ((left_pts G hx).1 u2).2, hp1 v ((left_pts G hx).1 v2).2] at this
  · by_cases hsx : s = x.2
    · subst hsx
      exact ⟨y, (left_pts G hx).2 ⟨hyl, hy1⟩, hyl, rep_in hx.mem hy⟩
    · have hm := hd_mem (chk_len (G.2.2.1 s hs)).1
      have h2 : ∃ t ∈ l, hdV s ∈ t := ⟨s, hs, hm⟩
      exact ⟨hdV s, (left_pts G hx).2 ⟨h2, fun e => hsx (hx.one s hs (by rw [← e]; exact inside_mem.2 fun u hu => by rw [List.mem_singleton.1 hu]; exact hm))⟩, h2, rfl⟩
end
end Go.Proofs.YtjbepoofigokjaaGreat
