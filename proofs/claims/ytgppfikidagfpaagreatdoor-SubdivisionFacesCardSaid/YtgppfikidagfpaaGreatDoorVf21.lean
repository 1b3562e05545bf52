/- Part 21: walks by contracts, and plain laws. -/
import Derived.Test.YtgppfikidagfpaaGreatDoorVf20
set_option linter.unusedVariables false
set_option linter.unusedSimpArgs false
set_option linter.unusedSectionVars false
namespace Go.Proofs.YtgppfikidagfpaaGreatDoor
open Go.RowKit
set_option maxHeartbeats 2000000
set_option linter.unusedSimpArgs false

abbrev apO (b : Nat) (xs : List (List Vx)) (hs : List HObj) : Prop := ∃ sv, hs = [hCell b 37 1 false (dX sv), hRow sv 22 Verts xs]
theorem tySj : TyI Tryz.prog 37 1 false := ⟨by kernel_rfl, Tryz.isAgg37⟩
set_option maxRecDepth 100000 in
set_option maxHeartbeats 8000000 in
theorem appendSeq_c {gf : FuncId} {lb : List Value} {hk : List HObj} {xs : List (List Vx)} (he : Enters Tryz.prog gf) (hS : SeqC Tryz.prog gf lb hk (fun x => dS Verts x) xs) (hl : xs.length ≤ 1000000) :
    CallC Tryz.prog 164 ([dX (.slice none 0 0), dX (.func (.func gf) #[] lb.toArray)] ++ ([] : List Value).map dX) hk (fun d hp2 => ∃ v, d = dX v ∧ hp2 = hRow v 22 Verts xs :: hk) := ⟨fun P0 B w0 hp vs W hh hl0 hv => by
  refine (callsIn_wide (n := 0)).1 (callsIn_of_wp_marks Tryz.func164 rfl trivial ?_ rfl)
  refine wpIn_wide.2 ?_
  have hf0 := fr_enter (m := 11) hl0 hv
  have hsz : vs.toArray.size = 2 := by simpa using hl0
  rw [hsz]
  have hnt : Tryz.f164.ntmps = 13 := rfl
  rw [hnt]
  simp only [List.length_cons, List.length_nil, Nat.reduceAdd, Nat.reduceSub, List.replicate_succ, List.replicate_zero, List.cons_append, List.nil_append, List.map_nil] at hf0 ⊢
  refine wp_seq (Code.wp_mono ?_ (WC.on (Q := fun e f q => e = .normal ∧ ∃ b, f = [dX (.slice none 0 0), dX (.func (.func gf) #[] lb.toArray), dX (.pointer (some ⟨b, 0, none⟩)), dX undef, dX (.slice none 0 0), dX undef, dX undef, dX undef, dX undef, dX undef, dX undef, dX undef, dX undef] ∧ q = [hCell b 37 1 false (dX (.slice none 0 0)), hRow (.slice none 0 0) 22 Verts []] ++ (hk ++ hp)) ?_ hh hf0))
  rotate_left
  · refine WC.region ?_
    refine WL.nilRow 22 Verts ?_
    refine WL.boxC (OpD.t rfl) (shape_X rfl) fun b => ?_
    dsimp only [setD, z0, z1]
    refine WL.op rfl (SY.assign OpD.x) (WL.nil ?_)
    exact ⟨rfl, b, rfl, rfl⟩
  rintro e a1 w1 ⟨f1, q1, ⟨rfl, b, rfl, rfl⟩, hh1, hf1⟩
  show Code.wp _ _ _ _ _
  refine wp_seq ?_
  refine wp_seq (Code.wp_mono ?_ (WC.on (Q := fun e f q => e = .normal ∧ f = [dX (.slice none 0 0), dX (.func (.func gf) #[] lb.toArray), dX (.pointer (some ⟨b, 0, none⟩)), dX undef, dX (.slice none 0 0), dX undef, dX (.func (.func gf) #[] lb.toArray), dX undef, dX undef, dX undef, dX undef, dX undef, dX undef] ∧ q = [hCell b 37 1 false (dX (.slice none 0 0)), hRow (.slice none 0 0) 22 Verts []] ++ (hk ++ hp)) ?_ hh1 hf1))
  rotate_left
  · refine WC.region ?_
    refine WL.op rfl (SY.move (OpD.t rfl)) (WL.nil ?_)
    exact ⟨rfl, rfl, rfl⟩
  rintro e a2 w2 ⟨f2, q2, ⟨rfl, rfl, rfl⟩, hh2, hf2⟩
  show Code.wp _ _ _ _ _
  refine wp_block ?_
  refine wp_rangeC (hs0 := [_, _]) (hk := hk) (hp := hp) (xs := xs) (D := fun x => dS Verts x) (apO b) _ (fun x => [dX (.slice none 0 0), dX (.func (.func gf) #[] lb.toArray), dX (.pointer (some ⟨b, 0, none⟩)), dX undef, dX (.slice none 0 0), dS Verts x, dX (.func (.func gf) #[] lb.toArray), dS Verts x, dX undef, dX undef, dX undef, dX undef, dX undef]) hh2 hf2 (OpD.t rfl) he hS ⟨_, rfl⟩ (by repeat (first | exact FixF.nil | apply FixF.x)) ?_ ?_ ?_
  · intro l x q
    refine WR.region rfl (I.WL.op rfl (SY.assign (OpD.t rfl)) (I.WL.nil ⟨rfl, rfl, rfl⟩))
  · rintro l pre x hs q hlt ⟨sv, rfl⟩
    refine WR.block (WR.region rfl ?_)
    refine I.WL.op rfl (SY.loadH tySj (OpD.t rfl) (.head _)) ?_
    dsimp only [setD, z0, z1, List.cons_append, List.nil_append]
    refine I.WL.op rfl (SY.move (OpD.t rfl)) ?_
    dsimp only [setD, z0, z1]
    refine I.WL.perm (List.Perm.swap _ _ _) (I.WL.push1 elSi (OpD.t rfl) (OpD.t rfl) (fun _ => shape_K) (by simp) (by simp) (by decide) (by omega) fun v' => ?_)
    dsimp only [setD, z0, z1]
    refine I.WL.knowRow (.head _) fun ⟨ad, c, hv'⟩ => ?_
    refine I.WL.perm (List.Perm.swap _ _ _) (I.WL.storeK tySj (OpD.t rfl) (OpD.t rfl) (shape_X (by rw [hv']; rfl)) (I.WL.nil ?_))
    exact ⟨rfl, _, ⟨v', rfl⟩, rfl⟩
  · rintro k hs w3 ⟨sv, rfl⟩ hh3 hrd
    show Code.wp _ _ _ _ _
    have hf3 : Fr (Imm P0 B (hObj k (.deferred (some [])) :: ([hCell b 37 1 false (dX sv), hRow sv 22 Verts xs] ++ (hk ++ hp)))) w3 { tmps := a2.tmps, defers := [] } _ := ⟨rfl, hf2.size, hrd⟩
    refine wp_seq (wp_region_lit ?_)
    refine wpList_defers rfl (SY.loadH tySj (OpD.t rfl) (.tail _ (.head _))) hh3 hf3 fun a4 w4 hd4 hh4 hf4 => ?_
    refine wpList_defers rfl (SY.assign (OpD.t rfl)) hh4 hf4 fun a5 w5 hd5 hh5 hf5 => ?_
    refine wpList_nil ?_
    show Code.wp _ _ _ _ _
    refine wp_ret ?_
    show LeavesInM _ _ _ _ _ _ _ _ _
    rw [hd5, hd4, hf2.defers]
    have hK : w5.heap[k]? = some (.deferred (some [])) := hh5.ok (hObj k (.deferred (some []))) (by simp)
    refine ⟨by simp, .inl ⟨_, _, rfl, run_takeDeferred hK, _, results_tmp rfl _ _ _, ?_⟩⟩
    have hh6 := (Hp.putObj (o' := .deferred none) hh5).drop.drop
    exact ⟨_, dX sv, hRow sv 22 Verts xs :: hk, rfl, ⟨sv, rfl, rfl⟩, hh6, hf5.rd 4 _ rfl⟩⟩
theorem collect_c {gf : FuncId} {lb : List Value} {hk : List HObj} {xs : List (List Vx)} (he : Enters Tryz.prog gf) (hS : SeqC Tryz.prog gf lb hk (fun x => dS Verts x) xs) (hl : xs.length ≤ 1000000) :
    CallC Tryz.prog 149 ([dX (.func (.func gf) #[] lb.toArray)] ++ ([] : List Value).map dX) hk (fun d hp2 => ∃ v, d = dX v ∧ hp2 = hRow v 22 Verts xs :: hk) := by
  (refine CallC.intro Tryz.func149 rfl rfl (fun hp => ?_); simp only [Tryz.ntmps149, List.length_cons, List.length_nil, List.length_append, List.length_map, Nat.reduceAdd, Nat.reduceSub, List.replicate_succ, List.replicate_zero, List.cons_append, List.nil_append, List.map_cons, List.map_nil, List.append_assoc])
  ((repeat' (first | (apply WL.opN; exact yF; dsimp only [setD, z0, z1]) | refine WL.nil ?_ | refine WC.seqK fun Kx hK => ?_ | (refine hK _ _ ?_; clear hK) | refine WC.region ?_ |  (refine WL.callC (caps := []) (appendSeq_c he hS hl) Tryz.call164 OpD.f (by (exact aD)) ?_; rintro d' hp2 ⟨v, rfl, rfl⟩; dsimp only [setD, z0, z1, List.cons_append, List.nil_append]) | refine WC.ret ?_)); all_goals (first | ((repeat clear hK); (repeat clear Kx))))
  exact ⟨trivial, _, _ :: hk, rfl, rfl, v, rfl, rfl⟩

theorem chkV_short {s : List Vx} (h : chkV s = 0) : s.length ≤ 8 := by
  unfold chkV at h
  split at h
  · cases h
  · split at h
    · cases h
    · omega
theorem facesP_p (s : List Vx) (k : Int) : Fn Tryz.prog 104 [dS Verts s, dI k] (dT [dS Simps (facesV s k).1, dI (facesV s k).2]) := by
  (refine Fn.intro2 Tryz.func104 rfl rfl ?_; simp only [Tryz.ntmps104, List.length_cons, List.length_nil, Nat.reduceAdd, Nat.reduceSub, List.replicate_succ, List.replicate_zero, List.cons_append, List.nil_append])
  ((repeat' (first | (apply WL.opN; exact yF; dsimp only [setD, z0, z1]) | refine WL.nil ?_ | refine WC.seqK fun Kx hK => ?_ | (refine hK _ _ ?_; clear hK) | refine WC.region ?_ |  (refine WL.callC (hp1 := []) (caps := []) (faces_k k.toNat s) Tryz.call150 OpD.f (by (exact aD)) ?_; rintro d' hp2 ⟨vk, vs, rfl, rfl⟩; dsimp only [setD, z0, z1, List.cons_append, List.nil_append]) |  (refine WL.callC (caps := []) (collect_c Tryz.call165 (seq_c k.toNat s (by have := chkV_short (by assumption); omega) (by have := chkV_short (by assumption); omega) vk vs) (by have := chkV_short (by assumption); have := subsV_len k.toNat s; have : 2 ^ s.length ≤ 2 ^ 8 := Nat.pow_le_pow_right (by decide) (by omega); omega)) Tryz.call149 OpD.f (by (exact aD)) ?_; rintro d' hp2 ⟨v, rfl, rfl⟩; dsimp only [setD, z0, z1, List.cons_append, List.nil_append]) | (apply WL.opG; (focus (first | exact wN | (apply SYG.yes; (exact wY); ((first | (apply SY.call (chk_p _) Tryz.call81; (exact aD)) | exact yMove | exact yLss | exact yGtr | exact yNeq | exact yLen | exact yPick | fail); all_goals infer_instance)))); dsimp only [setD, z0, z1]) | ((first | refine WL.caseP rfl rfl rfl (fun h => ?_) (fun h => ?_) | refine WL.caseN rfl rfl rfl (fun h => ?_) (fun h => ?_) | refine WL.caseB rfl rfl rfl (fun h => ?_) (fun h => ?_)) <;> (first | (exfalso; first | omega | contradiction) | (dsimp only [z0, z1]))) | (apply WC.condT; (exact oD); (with_reducible rfl)) | (apply WC.condD; (exact oD); all_goals (intro h; try exact xD)) | (apply WC.condN; (exact oD); all_goals (intro h; try exact xD)) | refine WC.skip ?_ | refine WC.ret ?_ | refine ThenD.r ?_)); all_goals (first | ((repeat clear hK); (repeat clear Kx))))
  · have e1 : facesV s k = ([], chkV s) := by unfold facesV; rw [if_pos h]
    rw [e1]; (refine ⟨trivial, ⟨_, rfl, ?_⟩, _, rfl, ?_⟩ <;> exact fD)
  · have e1 : facesV s k = ([], 2) := by unfold facesV; rw [if_neg (by simpa), if_pos (.inl h)]
    rw [e1]; (refine ⟨trivial, ⟨_, rfl, ?_⟩, _, rfl, ?_⟩ <;> exact fD)
  · have e1 : facesV s k = ([], 2) := by unfold facesV; rw [if_neg (by simpa), if_pos (.inr h)]
    rw [e1]; (refine ⟨trivial, ⟨_, rfl, ?_⟩, _, rfl, ?_⟩ <;> exact fD)
  · have e1 : facesV s k = (subsV k.toNat s, 0) := by unfold facesV; rw [if_neg (by simpa), if_neg (by omega)]
    rw [e1]; (refine ⟨trivial, ⟨_, rfl, ?_⟩, _, rfl, ?_⟩ <;> exact fD)
end Go.Proofs.YtgppfikidagfpaaGreatDoor
namespace Go.Proofs.YtgppfikidagfpaaGreatDoor
open Go.RowKit
section
variable {P : Program} {ops : Array Oper} {hp : List HObj} {fr : List Dat} {dst : Option Tmp} {ty : TypeId} {ps : String} {af : Array Edge} {t e : TypeId} {z : Value} {bytes : Nat} {ag : Bool}
theorem SW.app1 {s y : Operand} (E : ElT P t e 1 z bytes ag) {α : Type} {R : Rel α} {_gR : Good R} {v : Value} {xs ys : List α} (hs : OpD fr s (dX v)) (hy : OpD fr y (dS (Arr R) ys)) (hby : 0 < bytes)
    (hlen : (xs.length + ys.length) * bytes ≤ 140737488355328) :
    SW P ops (hRow v e R xs :: hp) (fun v' : Value => hRow v' e R (xs ++ ys) :: hp) (fun v' => dX v') { dst := dst, op := .call { callee := .builtin .append, args := #[s, y], argTypes := #[t, t] }, type := ty, pos := ps, after := af, guard := none } fr := ⟨rfl, fun {P0 B w0 w a} hh ho K Q hk => by
  obtain ⟨ad, cap, hv, c1, c2, c3⟩ := (hy.get (by simp [Op.operands, Call.operands]) ho : Arr R _ _ _ _)
  have hm : xs.length + ys.length ≤ maxLen := by
    have : (xs.length + ys.length) * 1 ≤ (xs.length + ys.length) * bytes := Nat.mul_le_mul_left _ hby
    simp only [maxLen]; omega
  have hse : a.eval s = v := hs.get (by simp [Op.operands, Call.operands]) ho
  cases ad with
  | none =>
    have hy0 : ys = [] := by
      cases ys with
      | nil => rfl
      | cons y ys => obtain ⟨_, _, _, _, _, hc, _⟩ := c3 0 (by simp); cases hc
    subst hy0
    obtain ⟨us, _, hown, _⟩ := hh.ok (hRow v e R xs) (by simp)
    have hrun : (execOp a.eval { dst := dst, op := .call { callee := .builtin .append, args := #[s, y], argTypes := #[t, t] }, type := ty, pos := ps, after := af, guard := none }).run P w = .ok (.value v) w := by
      have hr := run_append_none (P := P) (ty := ty) (w := w) E hown cap
      have hv' : a.eval y = .slice none 0 cap := hv
      unfold execOp
      simp only [resolve, invoke, builtin, List.map_toArray, List.map_cons, List.map_nil, hse, hv', Sem.run_bind, Sem.run_pure, Result.andThen_ok]
      rw [hr]
      simp
    unfold Oper.wp
    rw [hrun]
    have := hk v v w
    simp only [List.append_nil] at this
    exact this hh (fun _ _ h => h) rfl
  | some ad =>
    have hch : ∀ k : Nat, ∃ u : Value, ∀ h : k < ys.length, w.cell? (ad.add k) = some u ∧ u.oneCell' = true ∧ R (Imm P0 B (hRow v e R xs :: hp)) w u ys[k] := fun k => by
      by_cases hk : k < ys.length
      · obtain ⟨u, b, off, r1, r2, r3, r4, r5⟩ := c3 k hk
        cases r3
        exact ⟨u, fun _ => ⟨by rw [Addr.add_lit]; exact r5, r2, r1⟩⟩
      · exact ⟨undef, fun h => absurd h hk⟩
    obtain ⟨f, hfch⟩ := Classical.axiomOfChoice hch
    obtain ⟨v', w', hr, r1, r2, r3⟩ := app1_step (ty := ty) E hh (ad := ad) (c := cap) (ys := ys) (news := (List.range ys.length).map f) (by simp) (fun j u hu => by
        obtain ⟨hjl, hju⟩ := List.getElem?_eq_some_iff.1 hu
        simp at hjl hju
        subst hju
        exact (hfch j hjl).1) (fun u hu => by
        simp only [List.mem_map, List.mem_range] at hu
        obtain ⟨j, hj, rfl⟩ := hu
        exact (hfch j hj).2.1) (fun k h1 h2 => by
        simp only [List.getElem_map, List.getElem_range]
        exact (hfch k h2).2.2) hlen hm
    have hrun : (execOp a.eval { dst := dst, op := .call { callee := .builtin .append, args := #[s, y], argTypes := #[t, t] }, type := ty, pos := ps, after := af, guard := none }).run P w = .ok (.value v') w' := by
      unfold execOp
      simp only [resolve, invoke, builtin, List.map_toArray, List.map_cons, List.map_nil, hse, hv, Sem.run_bind, Sem.run_pure, Result.andThen_ok, hr]
    unfold Oper.wp
    rw [hrun]
    exact hk v' v' w' r1 (fun d u hd => Hp.written (o := hRow v e R xs) (o' := hRow v' e R (xs ++ ys)) r2 r3 hd) rfl⟩
end
end Go.Proofs.YtgppfikidagfpaaGreatDoor
