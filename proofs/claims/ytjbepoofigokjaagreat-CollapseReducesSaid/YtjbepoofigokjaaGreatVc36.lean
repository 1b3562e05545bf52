/-
  Part 36 of the texts that the claims of this seat lean on: walks of the program's functions by contracts over symbolic frames, and plain laws of what they compute. No condition.
-/
import Derived.Test.YtjbepoofigokjaaGreatVc17
import Derived.Test.YtjbepoofigokjaaGreatVc20
import Derived.Test.YtjbepoofigokjaaGreatVc35
set_option linter.unusedVariables false
set_option linter.unusedSimpArgs false
set_option linter.unusedSectionVars false
namespace Go.Proofs.YtjbepoofigokjaaGreat
open Go.RowKit
set_option linter.unusedSimpArgs false

set_option maxHeartbeats 2000000
set_option maxRecDepth 100000
theorem tyBo : TyI Tryz.prog 4 1 false := ⟨by kernel_rfl, Tryz.isAgg4⟩
theorem tzBo : TyZ Tryz.prog 4 (.bool false) := ⟨by kernel_rfl⟩
theorem wpList_storeD {P : Program} {ops : Array Oper} {hp : List HObj} {fr : List Dat} {d d0 : Dat} {Q : Exit → Act → World → Prop} {rest : List Oper} {P0 : Nat → Prop} {B : Nat} {w0 w : World} {a : Act} {ty : TypeId} {ps : String} {af : Array Edge} {x : Operand} {t b n : Nat} {T T2 : TypeId} {agg : Bool}
    (hT : TyI P T n agg) (hp0 : OpD fr (.tmp t) (dX (.pointer (some ⟨b, 0, none⟩)))) (hx : OpD fr x d) (hs : d.Shape n agg) (hh : Hp P0 B w0 (hCell b T2 n agg d0 :: hp) w) (hf : Fr (Imm P0 B (hCell b T2 n agg d0 :: hp)) w { tmps := a.tmps, defers := [] } fr)
    (k : ∀ w', Hp P0 B w0 (hCell b T2 n agg d :: hp) w' → Fr (Imm P0 B (hCell b T2 n agg d :: hp)) w' { tmps := a.tmps, defers := [] } fr → wpList P ops Q rest a w') :
    wpList P ops Q ({ dst := none, op := .store T (.tmp t) x, type := ty, pos := ps, after := af, guard := none } :: rest) a w := by
  obtain ⟨cs, u, c1, c2, c0, c3, c4, c5⟩ := hh.ok (hCell b T2 n agg d0) (by simp)
  have e0 : ∀ y, a.eval y = ({ tmps := a.tmps, defers := [] } : Act).eval y := fun y => by cases y <;> rfl
  have h1 : d.rd (Imm P0 B (hCell b T2 n agg d0 :: hp)) w (a.eval x) := by rw [e0]; exact OpD.ev hx hf
  obtain ⟨cs', k1, k0, k2, k3, k4⟩ := hs _ _ _ h1
  have h2 : a.eval (.tmp t) = .pointer (some ⟨b, 0, none⟩) := by rw [e0]; exact OpD.ev hp0 hf
  have hr := run_storeC (u := a.eval x) hT.size c1 c2 k1 k2 k3
  have hrun : (execOp a.eval { dst := none, op := .store T (.tmp t) x, type := ty, pos := ps, after := af, guard := none }).run P w = .ok .skip (w.setRow b cs'.toArray) := by
    unfold execOp
    simp only [h2, Sem.run_bind, hr, Result.andThen_ok, Sem.run_pure]
  refine wpList_plain rfl fun K hK => ?_
  unfold Oper.wp
  rw [hrun]
  have hgr : w.grownBy (w.setRow b cs'.toArray) (hCell b T2 n agg d0).blk := grown_setRow
  have hok : (hCell b T2 n agg d).ok (fun k => Imm P0 B (hCell b T2 n agg d0 :: hp) k ∧ k < w.heap.size) (w.setRow b cs'.toArray) :=
    ⟨cs', a.eval x, setRow_heap w b _ _ _ _ c1, k1, k0, k2, k4, d.grown (d.bound h1) hgr (fun k hk hc => hc.1.2 _ (by simp) hk)⟩
  exact hK _ _ (k _ (hh.write hgr (.inl rfl) hok) (hf.mono fun _ _ hd => Hp.written (o' := hCell b T2 n agg d) hgr (.inl rfl) hd))
set_option maxHeartbeats 8000000 in
theorem is32_k (l : Cx) (G : GoodX l) (x : Cl) : CallC Tryz.prog 48 ([dS Cpx l, dS Col x] ++ ([] : List Value).map dX) [] (fun d hp2 => d = dB (decide (x ∈ freeP l)) ∧ hp2 = []) := ⟨fun P0 B w0 hp vs W hh hl0 hv => by
  refine (callsIn_wide (n := 0)).1 (callsIn_of_wp_marks Tryz.func48 rfl trivial ?_ rfl)
  refine wpIn_wide.2 ?_
  have hf0 := fr_enter (m := 21) hl0 hv
  have hsz : vs.toArray.size = 2 := by simpa using hl0
  rw [hsz]
  have hnt : Tryz.f48.ntmps = 23 := rfl
  rw [hnt]
  simp only [List.length_cons, List.length_nil, Nat.reduceAdd, Nat.reduceSub, List.replicate_succ, List.replicate_zero, List.cons_append, List.nil_append, List.map_nil] at hf0 hh ⊢
  refine wp_seq (Code.wp_mono ?_ (WC.on (Q := fun e f q => e = .normal ∧ ∃ b4, f = [dS Cpx l, dS Col x, dP 1 true (dS Cpx l), dP 2 true (dS Col x), dX (.pointer (some ⟨b4, 0, none⟩)), dX undef, dX undef, dX undef, dX undef, dX undef, dX undef, dX undef, dX undef, dX undef, dX undef, dX undef, dX undef, dX undef, dX undef, dX undef, dX undef, dX undef, dX undef] ∧ q = hCell b4 4 1 false (dX (.bool false)) :: hp) ?_ hh hf0))
  rotate_left
  · refine WC.region ?_
    refine WL.op rfl (SY.box (OpD.t rfl) shape_C) ?_
    dsimp only [setD, z0, z1]
    refine WL.op rfl (SY.box (OpD.t rfl) shape_P) ?_
    dsimp only [setD, z0, z1]
    refine WL.alloc tzBo (shape_X rfl) fun b4 => ?_
    dsimp only [setD, z0, z1]
    exact WL.nil ⟨rfl, b4, rfl, rfl⟩
  rintro e a1 w1 ⟨f1, q1, ⟨rfl, b4, rfl, rfl⟩, hh1, hf1⟩
  show Code.wp _ _ _ _ _
  refine wp_seq ?_
  refine wp_seq (Code.wp_mono ?_ (WC.on (Q := fun e f q => e = .normal ∧ ∃ v1 v2 v3, f = [dS Cpx l, dS Col x, dP 1 true (dS Cpx l), dX v3, dX (.pointer (some ⟨b4, 0, none⟩)), dX undef, dS Cpx l, dX (.func (.func 118) #[] [v1, v2].toArray), dX undef, dX undef, dX undef, dX undef, dX undef, dX undef, dX undef, dX undef, dX undef, dX undef, dX undef, dX undef, dX undef, dX undef, dX undef] ∧ q = [hCell b4 4 1 false (dX (.bool false)), hKnow v3 (dP 2 true (dS Col x))] ++ ([hKnow v1 (dP 1 true (dS Cpx l)), hKnow v2 (dP 1 false (dS (MapR kvK RI) (cntK l)))] ++ hp)) ?_ hh1 hf1))
  rotate_left
  · refine WC.pin (d := dP 2 true (dS Col x)) 3 rfl fun v3 => ?_
    dsimp only [z0, z1]
    refine WC.region ?_
    refine WL.op rfl (SY.load tyC (OpD.t rfl)) ?_
    dsimp only [setD, z0, z1]
    refine WL.callC (hp1 := []) (caps := []) (free_k l G) Tryz.call78 OpD.f (ArgsD.cons (OpD.t rfl) ArgsD.nil) ?_
    rintro d' hp2 ⟨v1, v2, rfl, rfl⟩
    dsimp only [setD, z0, z1, List.cons_append, List.nil_append]
    refine WL.perm (hp' := [hCell b4 4 1 false (dX (.bool false)), hKnow v3 (dP 2 true (dS Col x))] ++ ([hKnow v1 (dP 1 true (dS Cpx l)), hKnow v2 (dP 1 false (dS (MapR kvK RI) (cntK l)))] ++ hp)) ?_ (WL.nil ⟨rfl, v1, v2, v3, rfl, rfl⟩)
    exact (List.perm_append_comm (l₁ := [_, _]) (l₂ := [_, _])).append_right hp |>.trans ((List.Perm.swap _ _ _))
  rintro e a2 w2 ⟨f2, q2, ⟨rfl, v1, v2, v3, rfl, rfl⟩, hh2, hf2⟩
  show Code.wp _ _ _ _ _
  refine wp_block ?_
  refine wp_rangeE (hs0 := [_, _]) (hk := [_, _]) (hp := hp) (xs := freeP l) (D := fun x => dS Col x)
    (fun pre hs => hs = [hCell b4 4 1 false (dX (.bool false)), hKnow v3 (dP 2 true (dS Col x))] ∧ x ∉ pre) (fun pre hs => hs = [hCell b4 4 1 false (dX (.bool true)), hKnow v3 (dP 2 true (dS Col x))] ∧ x ∈ pre) _
    (fun y => [dA, dA, dA, dX v3, dX (.pointer (some ⟨b4, 0, none⟩)), dP 2 true (dS Col y), dA, dX (.func (.func 118) #[] [v1, v2].toArray), dS Col y, dX undef, dX undef, dX undef, dX undef, dX undef, dX undef, dX undef, dX undef, dX undef, dX undef, dX undef, dX undef, dX undef, dX undef]) hh2 hf2 (OpD.t rfl) Tryz.call118 (free1_e l G v1 v2) ⟨rfl, by simp⟩ (by repeat (first | exact FixF.nil | apply FixF.x | apply FixF.a)) ?_ ?_ ?_ ?_
  · intro l' y q
    refine WR.region rfl (I.WL.alloc tzCo shape_Z2 fun b5 => ?_)
    dsimp only [setD, z0, z1]
    refine I.WL.storeF tyCo rfl (OpD.t rfl) shape_P ?_
    dsimp only [setD, z0, z1]
    exact I.WL.nil ⟨rfl, rfl, rfl⟩
  · rintro l' pre y hs q hlt ⟨rfl, hn⟩
    have c1 := cmpL_p x.1 y.1
    have c2 := cmpL_p x.2 y.2
    refine WR.block (WR.use 3 rfl (.tail _ (.head _)) ?_)
    dsimp only [z0, z1]
    refine WR.seq (WR.region rfl ?_)
    refine I.WL.op rfl (SY.fldP0 (_gR := inferInstance) (_gS := inferInstance) colT (OpD.t rfl)) ?_
    dsimp only [setD, z0, z1]
    refine I.WL.op rfl (SY.load tySi (OpD.t rfl)) ?_
    dsimp only [setD, z0, z1]
    refine I.WL.op rfl (SY.fldP0 (_gR := inferInstance) (_gS := inferInstance) colT (OpD.t rfl)) ?_
    dsimp only [setD, z0, z1]
    refine I.WL.op rfl (SY.load tySi (OpD.t rfl)) ?_
    dsimp only [setD, z0, z1]
    refine I.WL.op rfl (SY.call c1 Tryz.call66 (ArgsD.cons (OpD.t rfl) (ArgsD.cons (OpD.t rfl) ArgsD.nil))) ?_
    dsimp only [setD, z0, z1]
    refine I.WL.op rfl (SY.eql (OpD.t rfl) OpD.i) ?_
    dsimp only [setD, z0, z1]
    refine I.WL.op rfl (SY.move (OpD.t rfl)) ?_
    dsimp only [setD, z0, z1]
    by_cases h1 : cmpL x.1 y.1 = 0
    · refine I.WL.opG (.inl ⟨want_yes rfl rfl rfl (decide_eq_true h1), SY.fldP1 (_gR := inferInstance) (_gS := inferInstance) colT (OpD.t rfl)⟩) ?_
      dsimp only [setD, z0, z1]
      refine I.WL.opG (.inl ⟨want_yes rfl rfl rfl (decide_eq_true h1), SY.load tySi (OpD.t rfl)⟩) ?_
      dsimp only [setD, z0, z1]
      refine I.WL.opG (.inl ⟨want_yes rfl rfl rfl (decide_eq_true h1), SY.fldP1 (_gR := inferInstance) (_gS := inferInstance) colT (OpD.t rfl)⟩) ?_
      dsimp only [setD, z0, z1]
      refine I.WL.opG (.inl ⟨want_yes rfl rfl rfl (decide_eq_true h1), SY.load tySi (OpD.t rfl)⟩) ?_
      dsimp only [setD, z0, z1]
      refine I.WL.opG (.inl ⟨want_yes rfl rfl rfl (decide_eq_true h1), SY.call c2 Tryz.call66 (ArgsD.cons (OpD.t rfl) (ArgsD.cons (OpD.t rfl) ArgsD.nil))⟩) ?_
      dsimp only [setD, z0, z1]
      refine I.WL.opG (.inl ⟨want_yes rfl rfl rfl (decide_eq_true h1), SY.eql (OpD.t rfl) OpD.i⟩) ?_
      dsimp only [setD, z0, z1]
      refine I.WL.op rfl (SY.pickT (OpD.t rfl) (decide_eq_true h1) (OpD.t rfl)) ?_
      dsimp only [setD, z0, z1]
      refine I.WL.nil (ThenD.n (WR.cond (OpD.t rfl) (fun hb => ?_) fun hb => ?_))
      · have hxy : x = y := Prod.ext (cmpL_eq.1 h1) (cmpL_eq.1 (of_decide_eq_true hb))
        refine WR.seq (WR.region rfl (I.WL.storeK tyBo (OpD.t rfl) OpD.x (shape_X rfl) (I.WL.nil (ThenD.n (WR.ret (InBlockD.r ?_))))))
        exact .inr ⟨rfl, _, ⟨rfl, by rw [hxy]; simp⟩, rfl⟩
      · have hxy : x ≠ y := fun e => of_decide_eq_false hb (cmpL_eq.2 (by rw [e]))
        exact WR.skip (InBlockD.n (.inl ⟨rfl, _, ⟨rfl, by simp [hn, hxy]⟩, rfl⟩))
    · refine I.WL.opG (d := dX undef) (.inr ⟨want_notT rfl rfl rfl (decide_eq_false h1), rfl⟩) ?_
      dsimp only [setD, z0, z1]
      refine I.WL.opG (d := dX undef) (.inr ⟨want_notT rfl rfl rfl (decide_eq_false h1), rfl⟩) ?_
      dsimp only [setD, z0, z1]
      refine I.WL.opG (d := dX undef) (.inr ⟨want_notT rfl rfl rfl (decide_eq_false h1), rfl⟩) ?_
      dsimp only [setD, z0, z1]
      refine I.WL.opG (d := dX undef) (.inr ⟨want_notT rfl rfl rfl (decide_eq_false h1), rfl⟩) ?_
      dsimp only [setD, z0, z1]
      refine I.WL.opG (d := dX undef) (.inr ⟨want_notT rfl rfl rfl (decide_eq_false h1), rfl⟩) ?_
      dsimp only [setD, z0, z1]
      refine I.WL.opG (d := dX undef) (.inr ⟨want_notT rfl rfl rfl (decide_eq_false h1), rfl⟩) ?_
      dsimp only [setD, z0, z1]
      refine I.WL.op rfl (SY.pickF (OpD.t rfl) (decide_eq_false h1) OpD.b) ?_
      dsimp only [setD, z0, z1]
      refine I.WL.nil (ThenD.n (WR.cond (OpD.t rfl) (fun hb => ?_) fun hb => ?_))
      · cases hb
      · have hxy : x ≠ y := fun e => h1 (cmpL_eq.2 (by rw [e]))
        exact WR.skip (InBlockD.n (.inl ⟨rfl, _, ⟨rfl, by simp [hn, hxy]⟩, rfl⟩))
  · rintro k hs w3 ⟨rfl, hn⟩ hh3 hrd
    show Code.wp _ _ _ _ _
    have hf3 : Fr _ w3 { tmps := a2.tmps, defers := [] } _ := ⟨rfl, hf2.size, hrd⟩
    obtain ⟨hh3', hI⟩ := hh3.perm (List.Perm.swap _ _ _)
    have hf3' := hf3.mono fun d v hd => d.weak hd fun k hk => (hI k).1 hk
    refine wp_seq (wp_region_lit ?_)
    refine wpList_storeD (d := dX (.bool false)) tyBo (OpD.t rfl) OpD.x (shape_X rfl) hh3' hf3' fun w4 hh4 hf4 => ?_
    refine wpList_nil ?_
    show Code.wp _ _ _ _ _
    refine wp_ret ?_
    show LeavesInM _ _ _ _ _ _ _ _ _
    rw [hf2.defers]
    have hK : w4.heap[k]? = some (.deferred (some [])) := hh4.ok (hObj k (.deferred (some []))) (by simp)
    obtain ⟨hh5, _⟩ := hh4.perm (List.Perm.swap _ _ _)
    have hh6 := (Hp.putObj (o' := .deferred none) hh5).drop
    obtain ⟨cs, u, c1, c2, c0, c3, c4, c5⟩ := hh6.ok (hCell b4 4 1 false (dX (.bool false))) (by simp)
    have hcc := cells_of_obj (I := fun _ => True) c1 c2 c0 c3 c4 trivial
    have hp0 : a2.tmps.getD 4 undef = .pointer (some ⟨b4, 0, none⟩) := hf4.rd 4 _ rfl
    refine ⟨by simp, .inl ⟨_, _, rfl, run_takeDeferred hK, _, results_cellC tyBo rfl hp0 hcc, ?_⟩⟩
    exact ⟨_, dB (decide (x ∈ freeP l)), [], rfl, ⟨rfl, rfl⟩, hh6.drop.drop.drop.drop, by rw [decide_eq_false hn]; exact c5⟩
  · rintro k pre y t hs w3 hxs ⟨rfl, hm⟩ hh3 hrd
    show LeavesInM _ _ _ _ _ _ _ _ _
    have hf3 : Fr _ w3 { tmps := a2.tmps, defers := [] } _ := ⟨rfl, hf2.size, hrd⟩
    rw [hf2.defers]
    have hK : w3.heap[k]? = some (.deferred (some [])) := hh3.ok (hObj k (.deferred (some []))) (by simp)
    have hh6 := (Hp.putObj (o' := .deferred none) hh3).drop
    obtain ⟨cs, u, c1, c2, c0, c3, c4, c5⟩ := hh6.ok (hCell b4 4 1 false (dX (.bool true))) (by simp)
    have hcc := cells_of_obj (I := fun _ => True) c1 c2 c0 c3 c4 trivial
    have hp0 : a2.tmps.getD 4 undef = .pointer (some ⟨b4, 0, none⟩) := hf3.rd 4 _ rfl
    have hmem : x ∈ freeP l := by
      rw [hxs]
      rcases List.mem_append.1 hm with h | h
      · exact List.mem_append_left _ h
      · rw [List.mem_singleton.1 h]; simp
    refine ⟨by simp, .inl ⟨_, _, rfl, run_takeDeferred hK, _, results_cellC tyBo rfl hp0 hcc, ?_⟩⟩
    exact ⟨_, dB (decide (x ∈ freeP l)), [], rfl, ⟨rfl, rfl⟩, hh6.drop.drop.drop.drop, by rw [decide_eq_true hmem]; exact c5⟩⟩
theorem is32_p (l : Cx) (G : GoodX l) (x : Cl) : Fn Tryz.prog 48 [dS Cpx l, dS Col x] (dB (decide (x ∈ pairsC l))) := by
  have e : decide (x ∈ freeP l) = decide (x ∈ pairsC l) := decide_eq_decide.2 (free_mem G)
  rw [← e]
  refine Fn.ofC (is32_k l G x) fun d hp2 ⟨h1, h2⟩ => ?_
  subst h1
  exact FinD.mk fun _ hd => (hd : _)
end Go.Proofs.YtjbepoofigokjaaGreat
namespace Go.Proofs.YtjbepoofigokjaaGreat
open Go.RowKit
set_option linter.unusedSimpArgs false

set_option maxHeartbeats 2000000
set_option maxRecDepth 100000
theorem WC.knowRow' {P : Program} {hp : List HObj} {fr : List Dat} {Q : Post} {c : Code} {α : Type} {R : Rel α} {_gR : Good R} {v : Value} {e : TypeId} {xs : List α} (hm : hRow v e R xs ∈ hp) (h : ∀ a k, v = .slice a xs.length k → xs.length ≤ k → WC P Q c fr hp) : WC P Q c fr hp := WC.of fun _ _ _ _ _ hh hf => by
  obtain ⟨a, k, h1, h2, _⟩ := Own.arr (hh.ok _ hm)
  exact (h a k h1 h2).on hh hf
theorem SY.cutX {P : Program} {ops : Array Oper} {hp : List HObj} {fr : List Dat} {dst : Option Tmp} {ty : TypeId} {ps : String} {af : Array Edge} {g : Option (Nat × Bool)} {t e : TypeId} {bytes : Nat} {z : Value} {ag : Bool} {x y : Operand} {ad : Option Addr} {n m l : Nat} (E : ElT P t e 1 z bytes ag) (hx : OpD fr x (dX (.slice ad n m))) (hy : OpD fr y (dI (l : Int))) (hl : l ≤ n) (hm : n ≤ m) :
    SY P ops hp { dst := dst, op := .slice t x none (some y) none, type := ty, pos := ps, after := af, guard := g } fr (dX (.slice ad l m)) := SY.val fun {I w a} ho => by
  have h1 : a.eval x = _ := hx.get (by simp [Op.operands]) ho
  have h2 : a.eval y = _ := hy.get (by simp [Op.operands]) ho
  refine ⟨_, ?_, rfl⟩
  have hr := run_slice (w := w) (ad := ad) (len := n) (cap := m) (lo := none) (hi := some (.int .i64 (l : Int))) (l := 0) (h := l) E (.inl ⟨rfl, rfl⟩) (.inr ⟨_, rfl⟩) (by omega) (by omega)
  have e1 : (if m = 0 then ad else ad.map (·.add (0 * 1))) = ad := by
    split
    · rfl
    · cases ad with
      | none => rfl
      | some b => cases b; simp [Addr.add]
  rw [e1] at hr
  unfold execOp
  simp only [h1, h2, Option.map_none, Option.map_some, Sem.run_bind, hr, Result.andThen_ok, Sem.run_pure]
  simp
theorem ArgH.cut {hp : List HObj} {e : TypeId} {α : Type} {R : Rel α} {_gR : Good R} {ad : Option Addr} {n c l : Nat} {xs ys : List α} (h : hRow (.slice ad n c) e R xs ∈ hp) (hl : l ≤ xs.length) (hy : xs.take l = ys) : ArgH hp (dX (.slice ad l c)) (dS (Arr R) ys) := ArgH.mk fun hh hd => by
  cases (hd : _ = _)
  subst hy
  obtain ⟨a, k, h1, h2, h3, h4⟩ := (Own.arr (hh.ok _ h)).any
  cases h1
  refine ⟨ad, c, by rw [List.length_take, Nat.min_eq_left hl], by rw [List.length_take]; omega, h3, fun i hi => ?_⟩
  rw [List.length_take] at hi
  obtain ⟨u, b, off, r1, r2⟩ := h4 i (by omega)
  exact ⟨u, b, off, by rw [List.getElem_take]; exact r1, r2⟩
theorem faceB_in {y s : List Vx} (hy : chkV y = 0) (hs : chkV s = 0) : faceB y s = insideV y s := by
  unfold faceB
  rw [hy, hs, if_neg (by simp [orI])]
  apply bool_iff
  rw [decide_eq_true_eq, inside_mem]
  constructor
  · intro h v hv
    have h1 : (y.filter fun x => decide (x ∈ s)).length = y.length := by omega
    rw [List.length_filter_eq_length_iff] at h1
    exact of_decide_eq_true (h1 v hv)
  · intro h
    have h1 : (y.filter fun x => decide (x ∈ s)).length = y.length := List.length_filter_eq_length_iff.2 fun v hv => decide_eq_true (h v hv)
    omega
theorem tzS32 : TyZ Tryz.prog 34 (.slice none 0 0) := ⟨by kernel_rfl⟩
def aftP (l : Cx) (x : Cl) (y : List Vx) : Bool := !(restC l x).any (fun s => insideV y s) && decide (y ≠ x.1)
def aftN (l : Cx) (x : Cl) (k : Nat) : Cx := restC l x ++ ((List.range k).map (remV x.2)).filter (aftP l x)
theorem aftN_zero (l : Cx) (x : Cl) : aftN l x 0 = restC l x := List.append_nil _
theorem aftN_all (l : Cx) (x : Cl) : aftN l x x.2.length = aftL l x := rfl
theorem aftN_succ (l : Cx) (x : Cl) (k : Nat) : aftN l x (k + 1) = aftN l x k ++ if aftP l x (remV x.2 k) = true then [remV x.2 k] else [] := by
  unfold aftN
  rw [List.range_succ, List.map_append, List.filter_append, List.append_assoc]
  congr 2
  show [remV x.2 k].filter _ = _
  by_cases h : aftP l x (remV x.2 k) = true
  · rw [if_pos h, List.filter_cons_of_pos h]; rfl
  · rw [if_neg h, List.filter_cons_of_neg h]; rfl
theorem rest_snoc {l : Cx} {x : Cl} {k : Nat} (h : k < l.length) : restC (l.take (k + 1)) x = restC (l.take k) x ++ if l[k] ≠ x.2 then [l[k]] else [] := by
  unfold restC
  rw [take_snoc' h, List.filter_append]
  congr 1
  by_cases hp : l[k] ≠ x.2
  · rw [if_pos hp, List.filter_cons_of_pos (by simpa using hp)]; rfl
  · rw [if_neg hp, List.filter_cons_of_neg (by simpa using hp)]; rfl
theorem aftN_take (l : Cx) (x : Cl) (k : Nat) : (aftN l x k).take (restC l x).length = restC l x := List.take_left' rfl
theorem aftN_len (l : Cx) (x : Cl) (k : Nat) : (restC l x).length ≤ (aftN l x k).length ∧ (aftN l x k).length ≤ (restC l x).length + k := by
  have h := List.length_filter_le (aftP l x) ((List.range k).map (remV x.2))
  rw [List.length_map, List.length_range] at h
  unfold aftN
  rw [List.length_append]
  omega
set_option maxHeartbeats 16000000 in
theorem after32_p (l : Cx) (G : GoodX l) (y : Cl) (hy : PairOk l y) (hw : (leftC l y).length ≤ 4096) : Fn Tryz.prog 49 [dS Cpx l, dS Col y] (dT [dS Cpx (leftC l y), dI 0]) := by
  (refine Fn.introC2 tyC Tryz.func49 rfl rfl ?_; simp only [Tryz.ntmps49, List.length_cons, List.length_nil, Nat.reduceAdd, Nat.reduceSub, List.replicate_succ, List.replicate_zero, List.cons_append, List.nil_append])
  have hll := G.1
  have py := chk_len hy.chk2
  have hyl := hy.len
  have px := chk_len hy.chk1
  (repeat' (first | ((first | apply WL.opN | apply WD.opN); exact yF; dsimp only [setD, z0, z1]) | refine WL.nil ?_ | refine WC.seqK fun Kx hK => ?_ | (refine hK _ _ ?_; clear hK) | refine WC.region ?_ |  (refine WL.alloc tzC (shape_C0 rfl) fun b4 => ?_; dsimp only [setD, z0, z1]) | ((first | apply WL.opG | apply WD.op); (focus (first | exact wN | (apply SYG.yes; (exact wY); ((first | (apply SY.len; (exact oD); (exact nD); (exact uD)) | (apply SY.fldC cpxT; exact OpD.t rfl) | (apply SY.box; (exact oD); (exact hD)) | fail); all_goals infer_instance)))); dsimp only [setD, z0, z1]) | refine WC.block ?_))
  rename Nat => b6
  refine WC.nilRow 34 Verts ?_
  have c3 : ∀ k (h : k < l.length), Fn Tryz.prog 89 [dS Verts l[k]] (dS Verts l[k]) := fun k h => cloneV_p _ (by have := (chk_len (G.2.2.1 _ (List.getElem_mem h))).2; omega)
  (refine WC.loopU (X := Nat × Value × Cx) (fun x => [(16, dI (x.1 : Int)), (8, dA), (17, dA), (18, dA), (19, dA), (20, dA), (21, dA), (22, dA), (23, dA), (24, dA), (25, dA), (26, dA), (27, dA), (28, dA), (29, dA), (30, dA), (31, dA), (32, dA)]) (fun x => (hRow x.2.1 34 Verts x.2.2 :: hC1 b6 24 x.2.1 :: hCell b4 24 1 true (dX (.agg #[.slice none 0 0])) :: [])) (fun x => l.length - x.1) (fun x => x.1 ≤ l.length ∧ x.2.2 = restC (l.take x.1) y) (0, .slice none 0 0, []) ?start ?frame0 ?objs0 ?round)
  case start => exact ⟨Nat.zero_le _, rfl⟩
  case frame0 => ((try dsimp only [upds, z0, z1]); repeat (first | exact LeF.nil | refine LeF.co (k := ?_)))
  case objs0 => rfl
  case round =>
    rintro ⟨k, v, o⟩ ⟨h1, h2⟩
    simp only at h1 h2
    have hol : o.length ≤ 1000000 := by
      have h3 : (restC (l.take k) y).length ≤ (l.take k).length := List.length_filter_le _ _
      rw [h2]
      rw [List.length_take] at h3
      omega
    dsimp only [upds, z0, z1]
    by_cases hk : k < l.length
    · have c1 := cmpL_p l[k] y.2
      have c3k := c3 k hk
      have er := rest_snoc (x := y) hk
      by_cases hne : l[k] = y.2
      · rw [cmpL_eq.2 hne] at c1
        rw [if_neg (by simpa using hne), List.append_nil] at er
        ((repeat' (first | ((first | apply WL.opN | apply WD.opN); exact yF; dsimp only [setD, z0, z1]) | refine WL.nil ?_ | refine WC.seqK fun Kx hK => ?_ | (refine hK _ _ ?_; clear hK) | refine WC.region ?_ | ((first | apply WL.opG | apply WD.op); (focus (first | exact wN | (apply SYG.yes; (exact wY); ((first | (apply SY.call (c1) Tryz.call66; (exact aD)) | ((first | apply SY.move | apply SY.assign | apply SY.lss | apply SY.gtr | apply SY.neq | apply SY.not) <;> (exact oD)) | ((first | apply SY.add) <;> first | exact oD | omega) | (apply SY.ix; (exact eD); (exact oD); (exact oD); exact kD) | (apply SY.fldP0 colT; exact OpD.t rfl) | (apply SY.fldP1 colT; exact OpD.t rfl) | fail); all_goals infer_instance)))); dsimp only [setD, z0, z1]) | (apply WC.condD; (exact oD); all_goals (intro h; try exact xD)) | (apply WC.condN; (exact oD); all_goals (intro h; try exact xD)) | refine WC.skip ?_ | refine WC.block ?_ | refine ThenD.n ?_)); all_goals (first | ((repeat clear hK); (repeat clear Kx))))
        all_goals first | (exfalso; omega) | skip
        (refine ⟨(k + 1, v, o), ?_, by first | omega | (simp only; omega), rfl, ?_⟩; rotate_left; ((try dsimp only [upds, z0, z1]); repeat (first | exact LeF.nil | refine LeF.co (k := ?_))); (try dsimp only))
        exact ⟨by show k + 1 ≤ _; omega, by show o = _; rw [er]; exact h2⟩
      · have hc : cmpL l[k] y.2 ≠ 0 := fun q => hne (cmpL_eq.1 q)
        rw [if_pos hne] at er
        ((repeat' (first |  (apply WC.drawTail 5; kernel_rfl; kernel_rfl; simp only [List.take_succ_cons, List.take_zero, List.drop_succ_cons, List.drop_zero]) | ((first | apply WL.opN | apply WD.opN); exact yF; dsimp only [setD, z0, z1]) | refine WL.nil ?_ | refine WD.nil ?_ | refine WC.seqK fun Kx hK => ?_ | (refine hK _ _ ?_; clear hK) | refine WC.region ?_ |  (refine WL.perm (List.Perm.swap _ _ _) ?_; refine WL.storeC1 tySS (OpD.t rfl) (OpD.t rfl) (.head _) ?_; refine WL.perm (List.Perm.swap _ _ _) ?_; dsimp only [setD, z0, z1]) | ((first | apply WL.appK | apply WL.app1); (exact eD); exact OpD.t rfl; (exact oD); decide; (exact lD); (intro _; dsimp only [setD, z0, z1]); all_goals (try infer_instance)) | ((first | apply WL.opG | apply WD.op); (focus (first | exact wN | (apply SYG.yes; (exact wY); ((first | (apply SY.call (c1) Tryz.call66; (exact aD)) | (apply SY.call (c3k) Tryz.call89; (exact aD)) | (apply SY.fldX cpxT; exact OpD.t rfl) | (apply SY.loadC1 tySS; exact OpD.t rfl; exact .tail _ (.head _)) | ((first | apply SY.move | apply SY.assign | apply SY.lss | apply SY.gtr | apply SY.neq | apply SY.not) <;> (exact oD)) | ((first | apply SY.add) <;> first | exact oD | omega) | (apply SY.ix; (exact eD); (exact oD); (exact oD); exact kD) | (apply SY.fldP0 colT; exact OpD.t rfl) | (apply SY.fldP1 colT; exact OpD.t rfl) | (apply SY.build1'; (exact eD); ((try simp only [List.map_cons, List.map_nil]); (repeat (first | exact ElsD.nl | (apply ElsD.cn; (first | exact OpD.t rfl | exact OpD.i | exact OpD.b | exact OpD.tle rfl (by first | exact Dat.le_nil | exact Dat.le_nilK (by decide)) | exact ⟨Dat.le_nil⟩ | exact ⟨Dat.le_nilK (by decide)⟩))))); rfl; rfl; (intro _; first | exact shape_K | exact shape_I | exact shape_A | exact shape_B); (exact (by simp))) | fail); all_goals infer_instance)))); dsimp only [setD, z0, z1]) | (apply WC.condD; (exact oD); all_goals (intro h; try exact xD)) | (apply WC.condN; (exact oD); all_goals (intro h; try exact xD)) | refine WC.skip ?_ | refine WC.block ?_ | refine ThenD.n ?_)); all_goals (first | ((repeat clear hK); (repeat clear Kx))))
        all_goals first | (exfalso; omega) | skip
        rename_i v'
        (refine ⟨(k + 1, v', o ++ [l[k]]), ?_, by first | omega | (simp only; omega), rfl, ?_⟩; rotate_left; ((try dsimp only [upds, z0, z1]); repeat (first | exact LeF.nil | refine LeF.co (k := ?_))); (try dsimp only))
        exact ⟨by show k + 1 ≤ _; omega, by show o ++ _ = _; rw [er, h2]⟩
    · rw [List.take_of_length_le (by omega)] at h2
      subst h2
      (repeat' (first | ((first | apply WL.opN | apply WD.opN); exact yF; dsimp only [setD, z0, z1]) | refine WL.nil ?_ | refine WC.seqK fun Kx hK => ?_ | (refine hK _ _ ?_; clear hK) | (refine Kont.skip ?_; clear hK) | refine WC.region ?_ | ((first | apply WL.opG | apply WD.op); (focus (first | exact wN | (apply SYG.yes; (exact wY); ((first | (apply SY.fldX cpxT; exact OpD.t rfl) | (apply SY.loadC1 tySS; exact OpD.t rfl; exact .tail _ (.head _)) | ((first | apply SY.move | apply SY.assign | apply SY.lss | apply SY.gtr | apply SY.neq | apply SY.not) <;> (exact oD)) | (apply SY.len; (exact oD); (exact nD); (exact uD)) | (apply SY.lenR; exact OpD.t rfl; (first | exact .head _ | exact .tail _ (.head _)); (exact uD)) | (apply SY.fldP0 colT; exact OpD.t rfl) | (apply SY.fldP1 colT; exact OpD.t rfl) | fail); all_goals infer_instance)))); dsimp only [setD, z0, z1]) | (apply WC.condD; (exact oD); all_goals (intro h; try exact xD)) | refine WC.exit ?_ | refine WC.block ?_))
      all_goals first | (exfalso; omega) | skip
      have hrl : (restC l y).length ≤ l.length := List.length_filter_le _ _
      (refine WC.loopU (X := Nat × Value × Cx) (fun x => [(39, dI (x.1 : Int)), (10, dA), (11, dA), (12, dA), (40, dA), (41, dA), (42, dA), (43, dA), (44, dA), (45, dA), (46, dA), (47, dA), (48, dA), (49, dA), (50, dA), (51, dA), (52, dA), (53, dA), (54, dA), (55, dA), (56, dA), (57, dA), (58, dA), (59, dA), (60, dA), (61, dA), (62, dA), (63, dA), (64, dA), (65, dA), (66, dA), (67, dA)]) (fun x => (hRow x.2.1 34 Verts x.2.2 :: hC1 b6 24 x.2.1 :: hCell b4 24 1 true (dX (.agg #[.slice none 0 0])) :: [])) (fun x => y.2.length - x.1) (fun x => x.1 ≤ y.2.length ∧ x.2.2 = aftN l y x.1) (0, v, restC l y) ?start ?frame0 ?objs0 ?round)
      case start => exact ⟨Nat.zero_le _, (aftN_zero l y).symm⟩
      case frame0 => ((try dsimp only [upds, z0, z1]); repeat (first | exact LeF.nil | refine LeF.co (k := ?_)))
      case objs0 => rfl
      case round =>
        rintro ⟨j, u, o⟩ ⟨q1, q2⟩
        simp only at q1 q2
        obtain ⟨n1, n2⟩ := aftN_len l y j
        have htk := aftN_take l y j
        rw [← q2] at n1 n2 htk
        dsimp only [upds, z0, z1]
        by_cases hj : j < y.2.length
        · have hck := rem_chk hy.chk2 hj (by omega)
          have hcl := (chk_len hck).2
          have c1 := without32_p y.2 j hj (by omega)
          have c4 := cmpL_p (remV y.2 j) y.1
          have hl100 : (remV y.2 j).length ≤ 100 := by omega
          have c5 := cntS_p (restC l y) (faceB (remV y.2 j))
          have eany : (restC l y).any (faceB (remV y.2 j)) = (restC l y).any (fun s => insideV (remV y.2 j) s) := by
            apply bool_iff
            rw [List.any_eq_true, List.any_eq_true]
            exact exists_congr fun s => and_congr_right fun hs => by rw [faceB_in hck (G.2.2.1 s (List.mem_filter.1 hs).1)]
          rw [eany] at c5
          have es := aftN_succ l y j
          rw [← q2] at es
          unfold aftP at es
          refine WC.knowRow' (.head _) fun ad c hu hc => ?_
          subst hu
          have hol2 : o.length ≤ 1000000 := by omega
          generalize (restC l y).any (fun s => insideV (remV y.2 j) s) = cv at *
          cases cv with
          | true =>
            rw [show (!true && decide (remV y.2 j ≠ y.1)) = false from rfl, if_neg (by decide), List.append_nil] at es
            ((repeat' (first | ((first | apply WL.opN | apply WD.opN); exact yF; dsimp only [setD, z0, z1]) | refine WL.nil ?_ | refine WC.seqK fun Kx hK => ?_ | (refine hK _ _ ?_; clear hK) | refine WC.region ?_ |  (apply WL.alloc tzS32; exact shape_X rfl; (intro b11; dsimp only [setD, z0, z1])) |  (apply WL.storeF tySi; exact rfl; exact OpD.t rfl; exact shape_K; dsimp only [setD, z0, z1]) | ((first | apply WL.opG | apply WD.op); (focus (first | exact wN | (apply SYG.yes; (exact wY); ((first | (apply SY.call (c1) Tryz.call90; (exact aD)) | (apply SY.fldX cpxT; exact OpD.t rfl) | (apply SY.loadC1 tySS; exact OpD.t rfl; exact .tail _ (.head _)) | (apply SY.cutX elSi; exact OpD.t rfl; exact OpD.t rfl; exact n1; exact hc) | (apply SY.makeFun (A := fun v : MemS (restC l y) => [dS Verts v.1]) (r := fun v => dB (faceB (remV y.2 j) v.1)) Tryz.call92 (fun v => after1_p v.1 (remV y.2 j) hl100) (fun _ => bare_B); (exact aD)) | (apply SY.callB c5 bare_B Tryz.call91; exact ArgsH.cons (OpD.t rfl) (ArgH.cut (.head _) n1 htk) (ArgsH.cons (OpD.t rfl) (ArgH.le (Dat.le_refl _)) ArgsH.nil)) | ((first | apply SY.move | apply SY.assign | apply SY.lss | apply SY.gtr | apply SY.neq | apply SY.not) <;> (exact oD)) | ((first | apply SY.add) <;> first | exact oD | omega) | (apply SY.fldP0 colT; exact OpD.t rfl) | (apply SY.fldP1 colT; exact OpD.t rfl) | (apply SY.pickF; (exact oD); (with_reducible rfl); (exact oD)) | fail); all_goals infer_instance)))); dsimp only [setD, z0, z1]) | ((first | refine WL.caseP rfl rfl rfl (fun h => ?_) (fun h => ?_) | refine WL.caseN rfl rfl rfl (fun h => ?_) (fun h => ?_) | refine WL.caseB rfl rfl rfl (fun h => ?_) (fun h => ?_) | refine WD.caseP rfl rfl rfl (fun h => ?_) (fun h => ?_) | refine WD.caseN rfl rfl rfl (fun h => ?_) (fun h => ?_) | refine WD.caseB rfl rfl rfl (fun h => ?_) (fun h => ?_)) <;> (first | (exfalso; first | omega | contradiction) | (dsimp only [z0, z1]))) | (apply WC.condF; (exact oD); (with_reducible rfl)) | (apply WC.condD; (exact oD); all_goals (intro h; try exact xD)) | refine WC.skip ?_ | refine WC.block ?_ | refine ThenD.n ?_)); all_goals (first | ((repeat clear hK); (repeat clear Kx))))
            all_goals first | (exfalso; omega) | skip
            (refine ⟨(j + 1, _, o), ?_, by first | omega | (simp only; omega), rfl, ?_⟩; rotate_left; ((try dsimp only [upds, z0, z1]); repeat (first | exact LeF.nil | refine LeF.co (k := ?_))); (try dsimp only))
            exact ⟨by show j + 1 ≤ _; omega, es.symm⟩
          | false =>
            by_cases hne : remV y.2 j = y.1
            · rw [cmpL_eq.2 hne] at c4
              rw [if_neg (by simp [hne]), List.append_nil] at es
              ((repeat' (first | ((first | apply WL.opN | apply WD.opN); exact yF; dsimp only [setD, z0, z1]) | refine WL.nil ?_ | refine WC.seqK fun Kx hK => ?_ | (refine hK _ _ ?_; clear hK) | refine WC.region ?_ |  (apply WL.alloc tzS32; exact shape_X rfl; (intro b11; dsimp only [setD, z0, z1])) |  (apply WL.storeF tySi; exact rfl; exact OpD.t rfl; exact shape_K; dsimp only [setD, z0, z1]) | ((first | apply WL.opG | apply WD.op); (focus (first | exact wN | (apply SYG.yes; (exact wY); ((first | (apply SY.call (c1) Tryz.call90; (exact aD)) | (apply SY.call (c4) Tryz.call66; (exact aD)) | (apply SY.fldX cpxT; exact OpD.t rfl) | (apply SY.loadC1 tySS; exact OpD.t rfl; exact .tail _ (.head _)) | (apply SY.cutX elSi; exact OpD.t rfl; exact OpD.t rfl; exact n1; exact hc) | (apply SY.makeFun (A := fun v : MemS (restC l y) => [dS Verts v.1]) (r := fun v => dB (faceB (remV y.2 j) v.1)) Tryz.call92 (fun v => after1_p v.1 (remV y.2 j) hl100) (fun _ => bare_B); (exact aD)) | (apply SY.callB c5 bare_B Tryz.call91; exact ArgsH.cons (OpD.t rfl) (ArgH.cut (.head _) n1 htk) (ArgsH.cons (OpD.t rfl) (ArgH.le (Dat.le_refl _)) ArgsH.nil)) | ((first | apply SY.move | apply SY.assign | apply SY.lss | apply SY.gtr | apply SY.neq | apply SY.not) <;> (exact oD)) | ((first | apply SY.add) <;> first | exact oD | omega) | (apply SY.load; (exact tD); (exact oD)) | (apply SY.fldP0 colT; exact OpD.t rfl) | (apply SY.fldP1 colT; exact OpD.t rfl) | (apply SY.pickT; (exact oD); (with_reducible rfl); (exact oD)) | fail); all_goals infer_instance)))); dsimp only [setD, z0, z1]) | ((first | refine WL.caseP rfl rfl rfl (fun h => ?_) (fun h => ?_) | refine WL.caseN rfl rfl rfl (fun h => ?_) (fun h => ?_) | refine WL.caseB rfl rfl rfl (fun h => ?_) (fun h => ?_) | refine WD.caseP rfl rfl rfl (fun h => ?_) (fun h => ?_) | refine WD.caseN rfl rfl rfl (fun h => ?_) (fun h => ?_) | refine WD.caseB rfl rfl rfl (fun h => ?_) (fun h => ?_)) <;> (first | (exfalso; first | omega | contradiction) | (dsimp only [z0, z1]))) | (apply WC.condD; (exact oD); all_goals (intro h; try exact xD)) | (apply WC.condN; (exact oD); all_goals (intro h; try exact xD)) | refine WC.skip ?_ | refine WC.block ?_ | refine ThenD.n ?_)); all_goals (first | ((repeat clear hK); (repeat clear Kx))))
              all_goals first | (exfalso; omega) | skip
              (refine ⟨(j + 1, _, o), ?_, by first | omega | (simp only; omega), rfl, ?_⟩; rotate_left; ((try dsimp only [upds, z0, z1]); repeat (first | exact LeF.nil | refine LeF.co (k := ?_))); (try dsimp only))
              exact ⟨by show j + 1 ≤ _; omega, es.symm⟩
            · have hcn : cmpL (remV y.2 j) y.1 ≠ 0 := fun q => hne (cmpL_eq.1 q)
              rw [if_pos (by simp [hne])] at es
              ((repeat' (first | ((first | apply WL.opN | apply WD.opN); exact yF; dsimp only [setD, z0, z1]) | refine WL.nil ?_ | refine WC.seqK fun Kx hK => ?_ | (refine hK _ _ ?_; clear hK) | refine WC.region ?_ |  (apply WL.alloc tzS32; exact shape_X rfl; (intro b11; dsimp only [setD, z0, z1])) |  (apply WL.storeF tySi; exact rfl; exact OpD.t rfl; exact shape_K; dsimp only [setD, z0, z1]) |  (refine WL.perm (List.Perm.swap _ _ _) ?_; refine WL.storeC1 tySS (OpD.t rfl) (OpD.t rfl) (.head _) ?_; refine WL.perm (List.Perm.swap _ _ _) ?_; dsimp only [setD, z0, z1]) | ((first | apply WL.pushK | apply WL.push1); (exact eD); exact OpD.t rfl; (exact oD); (intro _; exact hD); (exact (by simp)); (exact (by simp)); (first | exact ⟨by decide, by decide⟩ | skip); decide; (exact lD); (intro _; dsimp only [setD, z0, z1]); all_goals (try infer_instance)) | ((first | apply WL.opG | apply WD.op); (focus (first | exact wN | (apply SYG.yes; (exact wY); ((first | (apply SY.call (c1) Tryz.call90; (exact aD)) | (apply SY.call (c4) Tryz.call66; (exact aD)) | (apply SY.fldX cpxT; exact OpD.t rfl) | (apply SY.loadC1 tySS; exact OpD.t rfl; exact .tail _ (.head _)) | (apply SY.cutX elSi; exact OpD.t rfl; exact OpD.t rfl; exact n1; exact hc) | (apply SY.makeFun (A := fun v : MemS (restC l y) => [dS Verts v.1]) (r := fun v => dB (faceB (remV y.2 j) v.1)) Tryz.call92 (fun v => after1_p v.1 (remV y.2 j) hl100) (fun _ => bare_B); (exact aD)) | (apply SY.callB c5 bare_B Tryz.call91; exact ArgsH.cons (OpD.t rfl) (ArgH.cut (.head _) n1 htk) (ArgsH.cons (OpD.t rfl) (ArgH.le (Dat.le_refl _)) ArgsH.nil)) | ((first | apply SY.move | apply SY.assign | apply SY.lss | apply SY.gtr | apply SY.neq | apply SY.not) <;> (exact oD)) | ((first | apply SY.add) <;> first | exact oD | omega) | (apply SY.load; (exact tD); (exact oD)) | (apply SY.fldP0 colT; exact OpD.t rfl) | (apply SY.fldP1 colT; exact OpD.t rfl) | (apply SY.pickT; (exact oD); (with_reducible rfl); (exact oD)) | fail); all_goals infer_instance)))); dsimp only [setD, z0, z1]) | ((first | refine WL.caseP rfl rfl rfl (fun h => ?_) (fun h => ?_) | refine WL.caseN rfl rfl rfl (fun h => ?_) (fun h => ?_) | refine WL.caseB rfl rfl rfl (fun h => ?_) (fun h => ?_) | refine WD.caseP rfl rfl rfl (fun h => ?_) (fun h => ?_) | refine WD.caseN rfl rfl rfl (fun h => ?_) (fun h => ?_) | refine WD.caseB rfl rfl rfl (fun h => ?_) (fun h => ?_)) <;> (first | (exfalso; first | omega | contradiction) | (dsimp only [z0, z1]))) | (apply WC.condD; (exact oD); all_goals (intro h; try exact xD)) | (apply WC.condN; (exact oD); all_goals (intro h; try exact xD)) | refine WC.skip ?_ | refine WC.block ?_ | refine ThenD.n ?_)); all_goals (first | ((repeat clear hK); (repeat clear Kx))))
              all_goals first | (exfalso; omega) | skip
              rename_i v'
              (refine ⟨(j + 1, v', o ++ [remV y.2 j]), ?_, by first | omega | (simp only; omega), rfl, ?_⟩; rotate_left; ((try dsimp only [upds, z0, z1]); repeat (first | exact LeF.nil | refine LeF.co (k := ?_))); (try dsimp only))
              exact ⟨by show j + 1 ≤ _; omega, es.symm⟩
        · obtain rfl : j = y.2.length := by omega
          rw [aftN_all] at q2
          subst q2
          have ha4 : (aftL l y).length ≤ 4096 := Nat.le_trans (List.Nodup.length_le_of_subset (aft_nodup G hy) fun t ht => (aft_mem G hy).1 ht) hw
          ((repeat' (first | ((first | apply WL.opN | apply WD.opN); exact yF; dsimp only [setD, z0, z1]) | refine WL.nil ?_ | refine WC.seqK fun Kx hK => ?_ | (refine hK _ _ ?_; clear hK) | (refine Kont.skip ?_; clear hK) | refine WC.region ?_ |  (refine WL.sortS (OpD.t rfl) (by omega) fun ys hys hso => ?_; obtain rfl := aft_sorted G hy hys hso; refine WL.knowRow (.head _) _root_.id fun hv => ?_; obtain ⟨ad, cc, rfl⟩ := hv; dsimp only [setD, z0, z1]) |  (apply WL.storeF3 tyC; rfl; exact OpD.t rfl; exact shape_C0 rfl; dsimp only [setD, z0, z1]) | ((first | apply WL.opG | apply WD.op); (focus (first | exact wN | (apply SYG.yes; (exact wY); ((first | (apply SY.fldX cpxT; exact OpD.t rfl) | (apply SY.loadC1 tySS; exact OpD.t rfl; exact .tail _ (.head _)) | (apply SY.loadH tyC; exact OpD.t rfl; exact .tail _ (.head _)) | ((first | apply SY.move | apply SY.assign | apply SY.lss | apply SY.gtr | apply SY.neq | apply SY.not) <;> (exact oD)) | (apply SY.lenR; exact OpD.t rfl; (first | exact .head _ | exact .tail _ (.head _)); (exact uD)) | fail); all_goals infer_instance)))); dsimp only [setD, z0, z1]) | (apply WC.condD; (exact oD); all_goals (intro h; try exact xD)) | refine WC.skip ?_ | refine WC.ret ?_ | refine WC.exit ?_)); all_goals (first | ((repeat clear hK); (repeat clear Kx))))
          all_goals first | (exfalso; omega) | skip
          exact ⟨trivial, ⟨_, rfl, FinD.rowC (.head _)⟩, _, rfl, FinD.le (Dat.le_refl _)⟩
end Go.Proofs.YtjbepoofigokjaaGreat
