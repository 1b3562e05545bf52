/-
  Part 23 of the texts that the claims of this seat lean on: walks of the program's functions by contracts over symbolic frames, and plain laws of what they compute. No condition.
-/
import Derived.Test.YtmlikmldfdgmcaaGreatVp10
import Derived.Test.YtmlikmldfdgmcaaGreatVp15
import Derived.Test.YtmlikmldfdgmcaaGreatVp18
import Derived.Test.YtmlikmldfdgmcaaGreatVp22
set_option linter.unusedVariables false
set_option linter.unusedSimpArgs false
set_option linter.unusedSectionVars false
namespace Go.Proofs.YtmlikmldfdgmcaaGreat
open Go.RowKit
set_option maxHeartbeats 2000000
set_option linter.unusedSimpArgs false

theorem clone_o (b cap : Nat) (xs : List Vx) (hl : xs.length ≤ 1000) : CallC Tryz.prog 32 ([dX (rowV b cap xs)] ++ ([] : List Value).map dX) [hV b xs.length cap 51 xs] fun d' hp2 => ∃ v, d' = dX v ∧ hp2 = [hRowK v 51 2 RV xs, hV b xs.length cap 51 xs] := by
  (refine CallC.intro Tryz.func32 rfl rfl (fun hp => ?_); simp only [Tryz.ntmps32, List.length_cons, List.length_nil, List.length_append, List.length_map, Nat.reduceAdd, Nat.reduceSub, List.replicate_succ, List.replicate_zero, List.cons_append, List.nil_append, List.map_cons, List.map_nil, List.append_assoc])
  ((repeat' (first | (apply WL.opN; exact yF; dsimp only [setD, z0, z1]) | refine WL.nil ?_ | refine WC.seqK fun Kx hK => ?_ | (refine hK _ _ ?_; clear hK) | refine WC.region ?_ |  (apply WL.build0K elV RV (by decide); (intro _; dsimp only [setD, z0, z1]); all_goals (try infer_instance)) |  (apply WL.appKO elV; exact OpD.t rfl; exact OpD.t rfl; decide; (simp; omega); (intro _; dsimp only [setD, z0, z1])) | (apply WL.opN; (focus ((first | (apply SY.eqNilO; exact OpD.t rfl; exact eqNilV) | fail); all_goals infer_instance)); dsimp only [setD, z0, z1]) | (apply WC.condF; (exact oD); (with_reducible rfl)) | refine WC.skip ?_ | refine WC.ret ?_)); all_goals (first | ((repeat clear hK); (repeat clear Kx))))
  exact ⟨trivial, _, [_, _], rfl, rfl, _, rfl, by rw [List.nil_append]⟩

theorem tyFn : TyI Tryz.prog 113 1 false := ⟨by kernel_rfl, Tryz.isAgg113⟩
theorem tyFy : TyI Tryz.prog 66 1 false := ⟨by kernel_rfl, Tryz.isAgg66⟩
theorem tzFn : TyZ Tryz.prog 113 .nilFunc := ⟨by kernel_rfl⟩
abbrev fromF (v2 v3 v4 : Value) (bf : Nat) : Value := .func (.func 76) #[] [v2, v3, v4, .pointer (some ⟨bf, 0, none⟩)].toArray
abbrev fromO (k : Nat) (s : List Vx) (l b cap bf : Nat) (v2 v3 v4 : Value) (pre : List Vx) : List HObj :=
  [hV b pre.length cap 51 pre, hCell bf 113 1 false (dX (fromF v2 v3 v4 bf)), hKnow v2 (dP 1 false (dI k)), hKnow v3 (dP 1 false (dX (.func (.yield l) #[] #[]))), hKnow v4 (dP 1 false (dS Verts s))]
theorem perm5 {a b c d e : HObj} {js hp : List HObj} : (a :: b :: c :: d :: e :: (js ++ hp)).Perm (js ++ a :: b :: c :: d :: e :: hp) := by
  have : (([a, b, c, d, e] ++ js) ++ hp).Perm ((js ++ [a, b, c, d, e]) ++ hp) := List.Perm.append_right _ List.perm_append_comm
  simpa using this
set_option maxRecDepth 100000 in
set_option maxHeartbeats 8000000 in
theorem from_c (k : Nat) (s : List Vx) (hs : s.length ≤ 100) (hk : k ≤ 100) (l N b cap : Nat) (hcap : k ≤ cap) (J : List (List Vx) → List HObj → Prop) (hY : YStep Tryz.prog l (fun x => dS Verts x) J N) (v2 v3 v4 : Value) (bf : Nat) :
    ∀ (m i0 : Nat) (pre : List Vx) (done : List (List Vx)) (js : List HObj), s.length - i0 = m → i0 ≤ s.length → pre.length ≤ k → J done js → done.length + (subsV (k - pre.length) (s.drop i0)).length ≤ N →
    CallC Tryz.prog 76 ([dI (i0 : Int), dX (rowV b cap pre)] ++ [v2, v3, v4, .pointer (some ⟨bf, 0, none⟩)].map dX) (fromO k s l b cap bf v2 v3 v4 pre ++ js)
      (fun d hp2 => d = dB true ∧ ∃ js', J (done ++ (subsV (k - pre.length) (s.drop i0)).map (pre ++ ·)) js' ∧ hp2 = fromO k s l b cap bf v2 v3 v4 pre ++ js') := by
  intro m
  induction m using Nat.strongRecOn with
  | _ m ih =>
  intro i0 pre done js hm hi0 hpk hj hN
  (refine CallC.intro Tryz.func76 rfl rfl (fun hp => ?_); simp only [Tryz.ntmps76, List.length_cons, List.length_nil, List.length_append, List.length_map, Nat.reduceAdd, Nat.reduceSub, List.replicate_succ, List.replicate_zero, List.cons_append, List.nil_append, List.map_cons, List.map_nil, List.append_assoc])
  refine WC.use 2 rfl (.tail _ (.tail _ (.head _))) ?_
  refine WC.use 3 rfl (.tail _ (.tail _ (.tail _ (.head _)))) ?_
  refine WC.use 4 rfl (.tail _ (.tail _ (.tail _ (.tail _ (.head _))))) ?_
  dsimp only [z0, z1]
  (repeat' (first |  (refine I.WC.drawW (β := Value) 2 (fun v => hRowK v 51 2 RV pre :: hV b pre.length cap 51 pre :: hCell bf 113 1 false (dX (fromF v2 v3 v4 bf)) :: hKnow v2 (dP 1 false (dI k)) :: hKnow v3 (dP 1 false (dX (.func (.yield l) #[] #[]))) :: hKnow v4 (dP 1 false (dS Verts s)) :: (js ++ hp)) (fun v => dX v) _ rfl (by kernel_rfl) (by kernel_rfl) ?_; simp only [List.take_succ_cons, List.take_zero, List.drop_succ_cons, List.drop_zero]) | ((first | apply WL.opN | apply WD.opN); exact yF; dsimp only [setD, z0, z1]) | refine WL.nil ?_ | refine WC.seqK fun Kx hK => ?_ | (refine hK _ _ ?_; clear hK) | refine WC.region ?_ | ((first | apply WL.opN | apply WD.opN); (focus ((first | exact yEql | exact yLen | fail); all_goals infer_instance)); dsimp only [setD, z0, z1]) | (apply WC.condD; (exact oD); all_goals (intro h; try exact xD)) | refine WC.skip ?_ | refine WC.block ?_))
  · have hpk' : pre.length = k := by omega
    have h0 : k - pre.length = 0 := by omega
    rw [h0] at hN ⊢
    have hsub : subsV 0 (s.drop i0) = [[]] := by unfold subsV; rfl
    rw [hsub] at hN ⊢
    (repeat' (first | refine WDs.nil ?_ | (apply WDs.op; (focus (intro c; apply SYG.yes; (exact want_none rfl); ((first | (apply SY.load; exact tyFy; exact OpD.t rfl) | exact yMove | fail); all_goals infer_instance))); dsimp only [setD, z0, z1])))
    refine ⟨SW.callC (hp1 := [_]) (H := fun v => [hRowK v 51 2 RV pre, hV b pre.length cap 51 pre]) (caps := []) (clone_o b cap pre (by omega)) Tryz.call32 OpD.f (by (exact aD)) (fun d hp2 ⟨v, h1, h2⟩ => ⟨v, h1, h2⟩), fun v => ?_⟩
    dsimp only [setD, z0, z1]
    refine I.WL.keepK (s := 16) rfl ?_
    dsimp only [setD, z0, z1]
    refine I.WL.perm perm5 (I.WL.yield (pre := done) (y := pre) hY (by simp at hN; omega) hj (OpD.t rfl) (OpD.t rfl) fun js' hj' => I.WL.perm perm5.symm ?_)
    dsimp only [setD, z0, z1]
    refine I.WL.op rfl (SY.assign (OpD.t rfl)) ?_
    dsimp only [setD, z0, z1]
    refine I.WL.nil ?_
    ((repeat' (first | (refine hK _ _ ?_; clear hK) | refine WC.ret ?_ | refine ThenD.r ?_)); all_goals (first | ((repeat clear hK); (repeat clear Kx))))
    exact ⟨trivial, _, _ :: _ :: _ :: _ :: _ :: js', rfl, rfl, rfl, js', by rw [h0, hsub]; simpa using hj', rfl⟩
  · have hlt : pre.length < k := by omega
    obtain ⟨m1, hm1⟩ : ∃ m1, k - pre.length = m1 + 1 := ⟨k - pre.length - 1, by omega⟩
    rw [hm1] at hN ⊢
    (refine WC.loopU (X := Nat × List (List Vx) × List HObj) (fun x => [(9, dI (x.1 : Int)), (8, dA), (19, dA), (20, dA), (21, dA), (22, dA), (23, dA), (24, dA), (25, dA), (26, dA), (27, dA), (28, dA), (29, dA), (30, dA), (31, dA), (32, dA), (33, dA), (34, dA), (35, dA), (36, dA)]) (fun x => (hV b pre.length cap 51 pre :: hCell bf 113 1 false (dX (fromF v2 v3 v4 bf)) :: hKnow v2 (dP 1 false (dI k)) :: hKnow v3 (dP 1 false (dX (.func (.yield l) #[] #[]))) :: hKnow v4 (dP 1 false (dS Verts s)) :: (x.2.2 ++ hp))) (fun x => s.length - x.1) (fun x => i0 ≤ x.1 ∧ x.1 ≤ s.length ∧ J x.2.1 x.2.2 ∧ x.2.1 ++ (subsV (m1 + 1) (s.drop x.1)).map (pre ++ ·) = done ++ (subsV (m1 + 1) (s.drop i0)).map (pre ++ ·)) (i0, done, js) ?start ?frame0 ?objs0 ?round)
    case start => exact ⟨Nat.le_refl _, hi0, hj, rfl⟩
    case frame0 => ((try dsimp only [upds, z0, z1]); repeat (first | exact LeF.nil | refine LeF.co (k := ?_)))
    case objs0 => rfl
    case round =>
      rintro ⟨i, dn, js1⟩ ⟨q1, q2, q3, q4⟩
      simp only at q1 q2 q3 q4
      dsimp only [upds, z0, z1]
      ((repeat' (first |  (refine WC.drawW (β := Unit) 9 (fun _ => hV b (pre ++ [s[i]'(by omega)]).length cap 51 (pre ++ [s[i]'(by omega)]) :: hCell bf 113 1 false (dX (fromF v2 v3 v4 bf)) :: hKnow v2 (dP 1 false (dI k)) :: hKnow v3 (dP 1 false (dX (.func (.yield l) #[] #[]))) :: hKnow v4 (dP 1 false (dS Verts s)) :: (js1 ++ hp)) (fun _ => dX (rowV b cap (pre ++ [s[i]'(by omega)]))) _ rfl (by kernel_rfl) (by kernel_rfl) ?_; simp only [List.take_succ_cons, List.take_zero, List.drop_succ_cons, List.drop_zero]) | ((first | apply WL.opN | apply WD.opN); exact yF; dsimp only [setD, z0, z1]) | refine WL.nil ?_ | refine WC.seqK fun Kx hK => ?_ | (refine hK _ _ ?_; clear hK) | (refine Kont.skip ?_; clear hK) | refine WC.region ?_ | ((first | apply WL.opN | apply WD.opN); (focus ((first | exact yLss | exact yLen | fail); all_goals infer_instance)); dsimp only [setD, z0, z1]) | (apply WC.condD; (exact oD); all_goals (intro h; try exact xD)) | refine WC.skip ?_ | refine WC.ret ?_ | refine WC.exit ?_ | refine WC.block ?_)); all_goals (first | refine WDs.id ?_ | ((repeat clear hK); (repeat clear Kx))))
      · have hi : i < s.length := by omega
        (repeat' (first | refine WDs.nil ?_ | (apply WDs.op; (focus (intro c; apply SYG.yes; (exact want_none rfl); ((first | (apply SY.loadH; exact tyFn; exact OpD.t rfl; (refine HH.mem ?_ (fun _ => ?_) <;> exact .tail _ (.head _))) | (refine SY.ixK (R := RV) (_gR := inferInstance) (k := i) elV ?_ ?_ hi; exact OpD.t rfl; exact OpD.t rfl) | exact yMove | exact yAdd | exact yLoad | exact yBuildslice | fail); all_goals infer_instance))); dsimp only [setD, z0, z1])))
        refine ⟨SW.pushO' elV (OpD.t rfl) (OpD.t rfl) (by omega), fun _ => ?_⟩
        dsimp only [setD, z0, z1]
        have hd := subsV_drop m1 s i hi
        have hlen := congrArg List.length q4
        simp only [hd, List.length_append, List.length_map] at hlen
        have hk1 : k - (pre ++ [s[i]]).length = m1 := by simp; omega
        have hC := ih (s.length - (i + 1)) (by omega) (i + 1) (pre ++ [s[i]]) dn js1 rfl (by omega) (by simp; omega) q3 (by rw [hk1]; omega)
        rw [hk1] at hC
        refine WL.callC (hp1 := fromO k s l b cap bf v2 v3 v4 (pre ++ [s[i]]) ++ js1) hC Tryz.call76 (OpD.t rfl) (by (exact aD)) ?_
        rintro d' hp2 ⟨rfl, js2, hj2, rfl⟩
        dsimp only [setD, z0, z1, List.cons_append, List.nil_append]
        refine WL.cutO (k := pre.length) (by simp) ?_
        rw [List.take_left' rfl]
        ((repeat' (first | ((first | apply WL.opN | apply WD.opN); exact yF; dsimp only [setD, z0, z1]) | refine WL.nil ?_ | (refine hK _ _ ?_; clear hK) | refine WC.region ?_ | ((first | apply WL.opN | apply WD.opN); (focus ((first | exact yNot | exact yAdd | fail); all_goals infer_instance)); dsimp only [setD, z0, z1]) | (apply WC.condNB; (exact oD); all_goals (intro h; try exact xD)) | refine WC.skip ?_ | refine ThenD.n ?_)); all_goals (first | ((repeat clear hK); (repeat clear Kx))))
        (refine ⟨(i + 1, dn ++ List.map (fun x => pre ++ [s[i]] ++ x) (subsV m1 (List.drop (i + 1) s)), js2), ?_, by first | omega | (simp only; omega), rfl, ?_⟩; rotate_left; ((try dsimp only [upds, z0, z1]); repeat (first | exact LeF.nil | refine LeF.co (k := ?_))); (try dsimp only))
        refine ⟨by omega, by omega, hj2, ?_⟩
        rw [← q4, hd, List.map_append, List.map_map, List.append_assoc]
        congr 2
        apply List.map_congr_left
        intro x _
        simp
      · have hi : s.length ≤ i := by omega
        have hd : subsV (m1 + 1) (List.drop i s) = [] := by rw [List.drop_eq_nil_of_le hi]; rfl
        rw [hd] at q4
        simp only [List.map_nil, List.append_nil] at q4
        exact ⟨trivial, _, _ :: _ :: _ :: _ :: _ :: js1, rfl, rfl, rfl, js1, by rw [hm1, ← q4]; exact q3, rfl⟩
theorem perm2 {a b : HObj} {js hp : List HObj} : (js ++ a :: b :: hp).Perm (a :: b :: (js ++ hp)) := perm_mid2.symm
set_option maxRecDepth 100000 in
set_option maxHeartbeats 8000000 in
theorem seq_c (k : Nat) (s : List Vx) (hs : s.length ≤ 100) (hk : k ≤ 100) (vk vs : Value) : SeqC Tryz.prog 75 [vk, vs] [hKnow vk (dP 1 false (dI k)), hKnow vs (dP 1 false (dS Verts s))] (fun x => dS Verts x) (subsV k s) := ⟨fun l J hY js hj => by
  (refine CallC.intro0 Tryz.func75 rfl rfl (fun hp => ?_); simp only [Tryz.ntmps75, List.length_cons, List.length_nil, List.length_append, List.length_map, Nat.reduceAdd, Nat.reduceSub, List.replicate_succ, List.replicate_zero, List.cons_append, List.nil_append, List.map_cons, List.map_nil, List.append_assoc])
  refine WC.perm' perm2 ?_
  (repeat' (first |  (refine WC.pin (d := dP 1 false (dX (.func (.yield l) #[] #[]))) 3 rfl fun v3 => ?_; dsimp only [z0, z1]) |  (refine WC.use (d := dP 1 false (dI k)) 1 rfl (.tail _ (.tail _ (.head _))) ?_; dsimp only [z0, z1]; refine WC.drawW (β := Nat) 2 (fun b => hV b 0 k 51 [] :: hCell bf 113 1 false (dX (fromF vk v3 vs bf)) :: hKnow v3 (dP 1 false (dX (.func (.yield l) #[] #[]))) :: hKnow vk (dP 1 false (dI k)) :: hKnow vs (dP 1 false (dS Verts s)) :: (js ++ hp)) (fun b => dX (.slice (some ⟨b, 0, none⟩) 0 k)) _ rfl (by kernel_rfl) (by kernel_rfl) ?_; simp only [List.take_succ_cons, List.take_zero, List.drop_succ_cons, List.drop_zero]) | refine WL.nil ?_ | refine WC.seqK fun Kx hK => ?_ | (refine hK _ _ ?_; clear hK) | refine WC.region ?_ |  (apply WL.alloc tzFn; exact shape_X rfl; (intro bf; dsimp only [setD, z0, z1])) |  (apply WL.storeK tyFn; exact OpD.t rfl; exact OpD.t rfl; exact shape_X rfl; dsimp only [setD, z0, z1]) | ((first | apply WL.opN | apply WD.opN); (focus ((first | (apply SY.makeX; repeat (first | exact ArgsX.nil | (apply ArgsX.cons; exact OpD.t rfl))) | exact yBox | fail); all_goals infer_instance)); dsimp only [setD, z0, z1])))
  (repeat' (first | refine WDs.nil ?_ | (apply WDs.op; (focus (intro c; apply SYG.yes; (exact want_none rfl); ((first | (apply SY.loadH; exact tyFn; exact OpD.t rfl; (refine HH.mem ?_ (fun _ => ?_) <;> first | exact .head _ | exact .tail _ (.head _))) | exact yLoad | fail); all_goals infer_instance))); dsimp only [setD, z0, z1])))
  refine ⟨SW.makeO elV (OpD.t rfl) rfl (by omega) (by simp only [maxLen]; omega), fun b => ?_⟩
  dsimp only [setD, z0, z1]
  have hC := from_c k s hs hk l (subsV k s).length b k (Nat.le_refl _) J hY vk v3 vs bf s.length 0 [] [] js rfl (Nat.zero_le _) (Nat.zero_le _) hj (by simp)
  refine WL.perm (((List.Perm.swap _ _ _).cons _).cons _) ?_
  refine WL.callC (hp1 := fromO k s l b k bf vk v3 vs [] ++ js) hC Tryz.call76 (OpD.t rfl) (by (exact aD)) ?_
  rintro d' hp2 ⟨rfl, js', hj', rfl⟩
  simp only [List.length_nil, Nat.sub_zero, List.drop_zero, List.nil_append, List.map_id'] at hj'
  dsimp only [setD, z0, z1, List.cons_append, List.nil_append]
  refine WL.drop (WL.drop (WL.perm (List.Perm.swap _ _ _) (WL.drop (WL.perm perm_mid2 (WL.nil ?_)))))
  exact ⟨trivial, js' ++ [_, _], by simp, js', hj', rfl⟩⟩
theorem faces_k (k : Nat) (s : List Vx) : CallC Tryz.prog 46 ([dS Verts s, dI k] ++ ([] : List Value).map dX) [] (fun d hp2 => ∃ vk vs, d = dX (.func (.func 75) #[] [vk, vs].toArray) ∧ hp2 = [hKnow vk (dP 1 false (dI k)), hKnow vs (dP 1 false (dS Verts s))]) := by
  (refine CallC.intro Tryz.func46 rfl rfl (fun hp => ?_); simp only [Tryz.ntmps46, List.length_cons, List.length_nil, List.length_append, List.length_map, Nat.reduceAdd, Nat.reduceSub, List.replicate_succ, List.replicate_zero, List.cons_append, List.nil_append, List.map_cons, List.map_nil, List.append_assoc])
  ((repeat' (first |  (refine WC.pin (d := dP 1 false (dS Verts s)) 2 rfl fun vs => ?_; dsimp only [z0, z1]; refine WC.pin (d := dP 1 false (dI k)) 3 rfl fun vk => ?_; dsimp only [z0, z1]) | (apply WL.opN; exact yF; dsimp only [setD, z0, z1]) | refine WL.nil ?_ | refine WC.seqK fun Kx hK => ?_ | (refine hK _ _ ?_; clear hK) | refine WC.region ?_ | (apply WL.opN; (focus ((first | (apply SY.makeX; repeat (first | exact ArgsX.nil | (apply ArgsX.cons; exact OpD.t rfl))) | exact yBox | fail); all_goals infer_instance)); dsimp only [setD, z0, z1]) | refine WC.ret ?_)); all_goals (first | ((repeat clear hK); (repeat clear Kx))))
  exact ⟨trivial, _, [_, _], rfl, rfl, vk, vs, rfl, rfl⟩

end Go.Proofs.YtmlikmldfdgmcaaGreat
namespace Go.Proofs.YtmlikmldfdgmcaaGreat
open Go.RowKit
section
variable {P : Program} {ops : Array Oper} {hp : List HObj} {o : Oper} {fr : List Dat} {d : Dat} {Q : Exit → Act → World → Prop} {rest : List Oper} {P0 : Nat → Prop} {B : Nat} {w0 w : World} {a : Act}
theorem wpList_defers (hg : o.guard = none) (h : SY P ops hp o fr d) (hh : Hp P0 B w0 hp w) (hf : Fr (Imm P0 B hp) w { tmps := a.tmps, defers := [] } fr)
    (k : ∀ a' w', a'.defers = a.defers → Hp P0 B w0 hp w' → Fr (Imm P0 B hp) w' { tmps := a'.tmps, defers := [] } (setD fr o.dst d) → wpList P ops Q rest a' w') : wpList P ops Q (o :: rest) a w := by
  unfold wpList
  have hwant : Region.wanted o (yielded ops a.tmps) = true := by simp [Region.wanted, hg]
  rw [if_pos hwant]
  refine .inl (h.out hh (a := a) ⟨hf.size, fun t _ d hd => hf.rd t d hd⟩ _ _ fun v w' e hd => ?_)
  have hf2 := Fr.put (x := o.dst) (hf.ext e) hd
  refine k (a.put o.dst v) w' ?_ (hh.ext e) ?_
  · cases o.dst <;> rfl
  · have e1 : ({ tmps := (a.put o.dst v).tmps, defers := [] } : Act) = ({ tmps := a.tmps, defers := [] } : Act).put o.dst v := by cases o.dst <;> rfl
    rw [e1]; exact hf2
end
namespace I
section
variable {P : Program} {ops : Array Oper} {hp : List HObj} {fr : List Dat} {Q : Post} {rest : List Oper}
theorem WL.knowRow {α : Type} {R : Rel α} {_gR : Good R} {v : Value} {e : TypeId} {xs : List α} (hm : hRow v e R xs ∈ hp) (h : (∃ a c, v = .slice a xs.length c) → WL P ops Q rest fr hp) : WL P ops Q rest fr hp := WL.of fun _ _ _ _ _ hh hf =>
  (h (Own.len (hh.ok _ hm))).on hh hf
end
end I
end Go.Proofs.YtmlikmldfdgmcaaGreat
namespace Go.Proofs.YtmlikmldfdgmcaaGreat
open Go.RowKit
set_option maxHeartbeats 2000000
set_option linter.unusedSimpArgs false

abbrev apO (b : Nat) (xs : List (List Vx)) (hs : List HObj) : Prop := ∃ sv, hs = [hCell b 22 1 false (dX sv), hRow sv 34 Verts xs]
theorem tySj : TyI Tryz.prog 22 1 false := ⟨by kernel_rfl, Tryz.isAgg22⟩
set_option maxRecDepth 100000 in
set_option maxHeartbeats 8000000 in
theorem appendSeq_c {gf : FuncId} {lb : List Value} {hk : List HObj} {xs : List (List Vx)} (he : Enters Tryz.prog gf) (hS : SeqC Tryz.prog gf lb hk (fun x => dS Verts x) xs) (hl : xs.length ≤ 1000000) :
    CallC Tryz.prog 74 ([dX (.slice none 0 0), dX (.func (.func gf) #[] lb.toArray)] ++ ([] : List Value).map dX) hk (fun d hp2 => ∃ v, d = dX v ∧ hp2 = hRow v 34 Verts xs :: hk) := ⟨fun P0 B w0 hp vs W hh hl0 hv => by
  refine (callsIn_wide (n := 0)).1 (callsIn_of_wp_marks Tryz.func74 rfl trivial ?_ rfl)
  refine wpIn_wide.2 ?_
  have hf0 := fr_enter (m := 11) hl0 hv
  have hsz : vs.toArray.size = 2 := by simpa using hl0
  rw [hsz]
  have hnt : Tryz.f74.ntmps = 13 := rfl
  rw [hnt]
  simp only [List.length_cons, List.length_nil, Nat.reduceAdd, Nat.reduceSub, List.replicate_succ, List.replicate_zero, List.cons_append, List.nil_append, List.map_nil] at hf0 ⊢
  refine wp_seq (Code.wp_mono ?_ (WC.on (Q := fun e f q => e = .normal ∧ ∃ b, f = [dX (.slice none 0 0), dX (.func (.func gf) #[] lb.toArray), dX (.pointer (some ⟨b, 0, none⟩)), dX undef, dX (.slice none 0 0), dX undef, dX undef, dX undef, dX undef, dX undef, dX undef, dX undef, dX undef] ∧ q = [hCell b 22 1 false (dX (.slice none 0 0)), hRow (.slice none 0 0) 34 Verts []] ++ (hk ++ hp)) ?_ hh hf0))
  rotate_left
  · refine WC.region ?_
    refine WL.nilRow 34 Verts ?_
    refine WL.boxC (OpD.t rfl) (shape_X rfl) fun b => ?_
    dsimp only [setD, z0, z1]
    refine WL.op rfl (SY.assign OpD.x) (WL.nil ?_)
    exact ⟨rfl, b, rfl, rfl⟩
  rintro e a1 w1 ⟨f1, q1, ⟨rfl, b, rfl, rfl⟩, hh1, hf1⟩
  show Code.wp _ _ _ _ _
  refine wp_seq ?_
  refine wp_seq (Code.wp_mono ?_ (WC.on (Q := fun e f q => e = .normal ∧ f = [dX (.slice none 0 0), dX (.func (.func gf) #[] lb.toArray), dX (.pointer (some ⟨b, 0, none⟩)), dX undef, dX (.slice none 0 0), dX undef, dX (.func (.func gf) #[] lb.toArray), dX undef, dX undef, dX undef, dX undef, dX undef, dX undef] ∧ q = [hCell b 22 1 false (dX (.slice none 0 0)), hRow (.slice none 0 0) 34 Verts []] ++ (hk ++ hp)) ?_ hh1 hf1))
  rotate_left
  · refine WC.region ?_
    refine WL.op rfl (SY.move (OpD.t rfl)) (WL.nil ?_)
    exact ⟨rfl, rfl, rfl⟩
  rintro e a2 w2 ⟨f2, q2, ⟨rfl, rfl, rfl⟩, hh2, hf2⟩
  show Code.wp _ _ _ _ _
  refine wp_block ?_
  refine wp_rangeC (hs0 := [_, _]) (hk := hk) (hp := hp) (xs := xs) (D := fun x => dS Verts x) (apO b) _ (fun x => [dX (.slice none 0 0), dX (.func (.func gf) #[] lb.toArray), dX (.pointer (some ⟨b, 0, none⟩)), dX undef, dX (.slice none 0 0), dS Verts x, dX (.func (.func gf) #[] lb.toArray), dS Verts x, dX undef, dX undef, dX undef, dX undef, dX undef]) hh2 hf2 (OpD.t rfl) he hS ⟨_, rfl⟩ (by repeat (first | exact FixF.nil | apply FixF.x)) ?_ ?_ ?_
  · intro l x q
    refine WR.region rfl (I.WL.op rfl (SY.assign (OpD.t rfl)) (I.WL.nil ⟨rfl, rfl, rfl⟩))
  · rintro l pre x hs q hlt ⟨sv, rfl⟩
    refine WR.block (WR.region rfl ?_)
    refine I.WL.op rfl (SY.loadH tySj (OpD.t rfl) (.head _)) ?_
    dsimp only [setD, z0, z1, List.cons_append, List.nil_append]
    refine I.WL.op rfl (SY.move (OpD.t rfl)) ?_
    dsimp only [setD, z0, z1]
    refine I.WL.perm (List.Perm.swap _ _ _) (I.WL.push1 elSi (OpD.t rfl) (OpD.t rfl) (fun _ => shape_K) (by simp) (by simp) (by decide) (by omega) fun v' => ?_)
    dsimp only [setD, z0, z1]
    refine I.WL.knowRow (.head _) fun ⟨ad, c, hv'⟩ => ?_
    refine I.WL.perm (List.Perm.swap _ _ _) (I.WL.storeK tySj (OpD.t rfl) (OpD.t rfl) (shape_X (by rw [hv']; rfl)) (I.WL.nil ?_))
    exact ⟨rfl, _, ⟨v', rfl⟩, rfl⟩
  · rintro k hs w3 ⟨sv, rfl⟩ hh3 hrd
    show Code.wp _ _ _ _ _
    have hf3 : Fr (Imm P0 B (hObj k (.deferred (some [])) :: ([hCell b 22 1 false (dX sv), hRow sv 34 Verts xs] ++ (hk ++ hp)))) w3 { tmps := a2.tmps, defers := [] } _ := ⟨rfl, hf2.size, hrd⟩
    refine wp_seq (wp_region_lit ?_)
    refine wpList_defers rfl (SY.loadH tySj (OpD.t rfl) (.tail _ (.head _))) hh3 hf3 fun a4 w4 hd4 hh4 hf4 => ?_
    refine wpList_defers rfl (SY.assign (OpD.t rfl)) hh4 hf4 fun a5 w5 hd5 hh5 hf5 => ?_
    refine wpList_nil ?_
    show Code.wp _ _ _ _ _
    refine wp_ret ?_
    show LeavesInM _ _ _ _ _ _ _ _ _
    rw [hd5, hd4, hf2.defers]
    have hK : w5.heap[k]? = some (.deferred (some [])) := hh5.ok (hObj k (.deferred (some []))) (by simp)
    refine ⟨by simp, .inl ⟨_, _, rfl, run_takeDeferred hK, _, results_tmp rfl _ _ _, ?_⟩⟩
    have hh6 := (Hp.putObj (o' := .deferred none) hh5).drop.drop
    exact ⟨_, dX sv, hRow sv 34 Verts xs :: hk, rfl, ⟨sv, rfl, rfl⟩, hh6, hf5.rd 4 _ rfl⟩⟩
theorem collect_c {gf : FuncId} {lb : List Value} {hk : List HObj} {xs : List (List Vx)} (he : Enters Tryz.prog gf) (hS : SeqC Tryz.prog gf lb hk (fun x => dS Verts x) xs) (hl : xs.length ≤ 1000000) :
    CallC Tryz.prog 45 ([dX (.func (.func gf) #[] lb.toArray)] ++ ([] : List Value).map dX) hk (fun d hp2 => ∃ v, d = dX v ∧ hp2 = hRow v 34 Verts xs :: hk) := by
  (refine CallC.intro Tryz.func45 rfl rfl (fun hp => ?_); simp only [Tryz.ntmps45, List.length_cons, List.length_nil, List.length_append, List.length_map, Nat.reduceAdd, Nat.reduceSub, List.replicate_succ, List.replicate_zero, List.cons_append, List.nil_append, List.map_cons, List.map_nil, List.append_assoc])
  ((repeat' (first | (apply WL.opN; exact yF; dsimp only [setD, z0, z1]) | refine WL.nil ?_ | refine WC.seqK fun Kx hK => ?_ | (refine hK _ _ ?_; clear hK) | refine WC.region ?_ |  (refine WL.callC (caps := []) (appendSeq_c he hS hl) Tryz.call74 OpD.f (by (exact aD)) ?_; rintro d' hp2 ⟨v, rfl, rfl⟩; dsimp only [setD, z0, z1, List.cons_append, List.nil_append]) | refine WC.ret ?_)); all_goals (first | ((repeat clear hK); (repeat clear Kx))))
  exact ⟨trivial, _, _ :: hk, rfl, rfl, v, rfl, rfl⟩

theorem chkV_short {s : List Vx} (h : chkV s = 0) : s.length ≤ 8 := by
  unfold chkV at h
  split at h
  · cases h
  · split at h
    · cases h
    · omega
theorem facesP_p (s : List Vx) (k : Int) : Fn Tryz.prog 21 [dS Verts s, dI k] (dT [dS Simps (facesV s k).1, dI (facesV s k).2]) := by
  (refine Fn.intro2 Tryz.func21 rfl rfl ?_; simp only [Tryz.ntmps21, List.length_cons, List.length_nil, Nat.reduceAdd, Nat.reduceSub, List.replicate_succ, List.replicate_zero, List.cons_append, List.nil_append])
  ((repeat' (first | (apply WL.opN; exact yF; dsimp only [setD, z0, z1]) | refine WL.nil ?_ | refine WC.seqK fun Kx hK => ?_ | (refine hK _ _ ?_; clear hK) | refine WC.region ?_ |  (refine WL.callC (hp1 := []) (caps := []) (faces_k k.toNat s) Tryz.call46 OpD.f (by (exact aD)) ?_; rintro d' hp2 ⟨vk, vs, rfl, rfl⟩; dsimp only [setD, z0, z1, List.cons_append, List.nil_append]) |  (refine WL.callC (caps := []) (collect_c Tryz.call75 (seq_c k.toNat s (by have := chkV_short (by assumption); omega) (by have := chkV_short (by assumption); omega) vk vs) (by have := chkV_short (by assumption); have := subsV_len k.toNat s; have : 2 ^ s.length ≤ 2 ^ 8 := Nat.pow_le_pow_right (by decide) (by omega); omega)) Tryz.call45 OpD.f (by (exact aD)) ?_; rintro d' hp2 ⟨v, rfl, rfl⟩; dsimp only [setD, z0, z1, List.cons_append, List.nil_append]) | (apply WL.opG; (focus (first | exact wN | (apply SYG.yes; (exact wY); ((first | (apply SY.call (chk_p _) Tryz.call41; (exact aD)) | exact yMove | exact yLss | exact yGtr | exact yNeq | exact yLen | exact yPick | fail); all_goals infer_instance)))); dsimp only [setD, z0, z1]) | ((first | refine WL.caseP rfl rfl rfl (fun h => ?_) (fun h => ?_) | refine WL.caseN rfl rfl rfl (fun h => ?_) (fun h => ?_) | refine WL.caseB rfl rfl rfl (fun h => ?_) (fun h => ?_)) <;> (first | (exfalso; first | omega | contradiction) | (dsimp only [z0, z1]))) | (apply WC.condT; (exact oD); (with_reducible rfl)) | (apply WC.condD; (exact oD); all_goals (intro h; try exact xD)) | (apply WC.condN; (exact oD); all_goals (intro h; try exact xD)) | refine WC.skip ?_ | refine WC.ret ?_ | refine ThenD.r ?_)); all_goals (first | ((repeat clear hK); (repeat clear Kx))))
  · have e1 : facesV s k = ([], chkV s) := by unfold facesV; rw [if_pos h]
    rw [e1]; (refine ⟨trivial, ⟨_, rfl, ?_⟩, _, rfl, ?_⟩ <;> exact fD)
  · have e1 : facesV s k = ([], 2) := by unfold facesV; rw [if_neg (by simpa), if_pos (.inl h)]
    rw [e1]; (refine ⟨trivial, ⟨_, rfl, ?_⟩, _, rfl, ?_⟩ <;> exact fD)
  · have e1 : facesV s k = ([], 2) := by unfold facesV; rw [if_neg (by simpa), if_pos (.inr h)]
    rw [e1]; (refine ⟨trivial, ⟨_, rfl, ?_⟩, _, rfl, ?_⟩ <;> exact fD)
  · have e1 : facesV s k = (subsV k.toNat s, 0) := by unfold facesV; rw [if_neg (by simpa), if_neg (by omega)]
    rw [e1]; (refine ⟨trivial, ⟨_, rfl, ?_⟩, _, rfl, ?_⟩ <;> exact fD)
end Go.Proofs.YtmlikmldfdgmcaaGreat
namespace Go.Proofs.YtmlikmldfdgmcaaGreat
open Go.RowKit
set_option linter.unusedSimpArgs false

set_option maxHeartbeats 2000000
set_option maxRecDepth 100000
section
variable {P : Program} {f : FuncId} {fn : Func} {c : Code} {t u : Tmp} {ds : List Dat} {hp1 : List HObj} {K : Dat → List HObj → Prop}
def finC22 (t u : Nat) (K : Dat → List HObj → Prop) (hp : List HObj) : Post := fun e f q => (match e with | .normal | .ret => True | _ => False) ∧ ∃ d d' hp2, f[t]? = some d ∧ f[u]? = some d' ∧ q = hp2 ++ hp ∧ K (dT [d, d']) hp2
theorem CallC.intro2 (hf : P.funcs[f]? = some fn) (hb : fn.body = some c) (hr : fn.results = #[.tmp t, .tmp u])
    (h : ∀ hp, WC P (finC22 t u K hp) c (ds ++ List.replicate (fn.ntmps - ds.length) (dX undef)) (hp1 ++ hp)) : CallC P f ds hp1 K := ⟨fun P0 B w0 hp vs W hh hl hv => by
  refine calls_of_wp hf hb ?_
  have hf0 := fr_enter (m := fn.ntmps - ds.length) hl hv
  have hsz : vs.toArray.size = ds.length := by simp [hl]
  rw [hsz]
  refine Code.wp_mono (fun e a' w' ⟨f', p', q, hh', hf'⟩ => ?_) ((h hp).on hh hf0)
  obtain ⟨hx, d, d', hp2, hd, hd', rfl, hk'⟩ := q
  have hv := hf'.rd t d hd
  have hv' := hf'.rd u d' hd'
  have hT : (dT [d, d']).rd (Imm P0 B (hp2 ++ hp)) w' (.tuple #[a'.tmps.getD t undef, a'.tmps.getD u undef]) := ⟨[a'.tmps.getD t undef, a'.tmps.getD u undef], rfl, rfl, fun i e x he hx => by
    match i, he, hx with
    | 0, he, hx => cases he; cases hx; exact hv
    | 1, he, hx => cases he; cases hx; exact hv'⟩
  cases e with
  | normal => exact ⟨hf'.defers, _, results_tmp2 hr _ _ _, _, _, hp2, rfl, hk', hh', hT⟩
  | ret => exact ⟨hf'.defers, _, results_tmp2 hr _ _ _, _, _, hp2, rfl, hk', hh', hT⟩
  | _ => exact hx.elim⟩
end
theorem ok_key {s : List Vx} (h : chkV s = 0) : okK s := ⟨len_chk h, fun v hv => ⟨ok_vx h v hv, (rngV_iff.1 ((chkV_zero.1 h).2.2.1 v hv)).1⟩⟩
def tooMany (l : Cx) (k : Nat) : Prop := 4096 < (allC l k).length
end Go.Proofs.YtmlikmldfdgmcaaGreat
namespace Go.Proofs.YtmlikmldfdgmcaaGreat
open Go.RowKit
set_option linter.unusedSimpArgs false

set_option maxHeartbeats 2000000
set_option maxRecDepth 100000
theorem FinD.t2 {hp : List HObj} {a b a' b' : Dat} (h : FinD hp a a') (k : FinD hp b b') : FinD hp (dT [a, b]) (dT [a', b']) := FinD.mk fun {P0 B w0 w v} hh hd => by
  obtain ⟨vs, rfl, hl, hv⟩ := hd
  match vs, hl with
  | [x, y], _ =>
    refine ⟨[x, y], rfl, rfl, fun i d u hd hu => ?_⟩
    match i, hd, hu with
    | 0, hd, hu => cases hd; cases hu; exact h.out hh (hv 0 _ _ rfl rfl)
    | 1, hd, hu => cases hd; cases hu; exact k.out hh (hv 1 _ _ rfl rfl)
instance (l : Cx) (k : Nat) : Decidable (tooMany l k) := inferInstanceAs (Decidable (4096 < (allC l k).length))
theorem all_good27 {l : Cx} {k : Nat} (hk : 0 < k) (hg : ∀ s ∈ l, chkV s = 0) : ∀ f ∈ allC l k, chkV f = 0 := fun f hf => by
  obtain ⟨s, hs, hf⟩ := allC_mem.1 hf
  exact (face_good (hg s hs) hk hf).1
end Go.Proofs.YtmlikmldfdgmcaaGreat
namespace Go.Proofs.YtmlikmldfdgmcaaGreat
open Go.RowKit
theorem wp_mono2 {P : Program} {o : Oper} {a : Act} {w : World} {K K' : Act → World → Prop} {Q Q' : Exit → Act → World → Prop} (h : ∀ a w, K a w → K' a w) (hq : ∀ e a w, e ≠ .normal → Q e a w → Q' e a w)
    (hh : o.wp P a w K Q) : o.wp P a w K' Q' := by
  have hl : LetsOut Q → LetsOut Q' := fun ⟨a, w, x⟩ => ⟨a, w, hq _ _ _ (by simp) x⟩
  unfold Oper.wp at *
  generalize (execOp a.eval o).run P w = r at *
  cases r with
  | ok n w' =>
    cases n <;> simp only [Oper.upon] at hh ⊢ <;>
      first
        | exact h _ _ hh
        | exact Calls.mono hh (fun e w'' he => by cases e <;> first | exact h _ _ he | exact hq _ _ _ (by simp) he | exact hl he)
        | exact Rows.mono hh (fun _ _ he => h _ _ he)
  | halt x w' => cases x <;> simp only [Oper.upon] at hh ⊢ <;> first | exact hh | exact hq _ _ _ (by simp) hh
structure WA (P : Program) (ops : Array Oper) (Q : Post) (g : Nat) (S : List Bool) (fr : List Dat) (hp : List HObj) : Prop where
  of ::
  out : ∀ (P0 : Nat → Prop) (B : Nat) (w0 w : World) (a : Act), Hp P0 B w0 hp w → Fr (Imm P0 B hp) w a fr → wpAny P .any ops (lift Q P0 B w0) g S.toArray a w
def ThenA (P : Program) (ops : Array Oper) (Q : Post) (g : Nat) (S : List Bool) : Post := fun e f p => match e with | .normal => WA P ops Q g S f p | e => Q e f p
section
variable {P : Program} {ops : Array Oper} {hp : List HObj} {fr : List Dat} {Q : Post} {g : Nat} {S : List Bool}
theorem WA.id (h : WA P ops Q g S fr hp) : WA P ops Q g S fr hp := h
theorem WA.nil (hr : Region.ready .any ops S.toArray = []) (h : Q .normal fr hp) : WA P ops Q 0 S fr hp := WA.of fun _ _ _ _ _ hh hf => ⟨hr, fr, hp, h, hh, hf⟩
theorem WA.step {i : Nat} {o : Oper} (ho : ops[i]? = some o) (h : WL P ops (ThenA P ops Q g (S.set i true)) [o] fr hp) {P0 : Nat → Prop} {B : Nat} {w0 w : World} {a : Act} (hh : Hp P0 B w0 hp w) (hf : Fr (Imm P0 B hp) w a fr) :
    wpOp P ops (lift Q P0 B w0) i (wpAny P .any ops (lift Q P0 B w0) g (S.toArray.setIfInBounds i true)) a w := by
  have h1 := h.on hh hf
  unfold wpList at h1
  unfold wpOp
  simp only [ho]
  have he : S.toArray.setIfInBounds i true = (S.set i true).toArray := by simp
  rw [he]
  have hK : ∀ a' w', wpList P ops (lift (ThenA P ops Q g (S.set i true)) P0 B w0) [] a' w' → wpAny P .any ops (lift Q P0 B w0) g (S.set i true).toArray a' w' := fun a' w' hn => by
    obtain ⟨f, p, q, r, s⟩ := (hn : lift (ThenA P ops Q g (S.set i true)) P0 B w0 .normal a' w')
    exact (q : WA P ops Q g (S.set i true) f p).out _ _ _ _ _ r s
  have hQ : ∀ e a' w', e ≠ .normal → lift (ThenA P ops Q g (S.set i true)) P0 B w0 e a' w' → lift Q P0 B w0 e a' w' := fun e a' w' hne ⟨f, p, q, r, s⟩ => by
    cases e with
    | normal => exact absurd rfl hne
    | _ => exact ⟨f, p, q, r, s⟩
  split
  · rename_i hw
    rw [if_pos hw] at h1
    rcases h1 with h1 | ⟨h1, a2, w2, h2⟩
    · exact .inl (wp_mono2 hK hQ h1)
    · exact .inr ⟨h1, a2, w2, hQ _ _ _ (by simp) h2⟩
  · rename_i hw
    rw [if_neg hw] at h1
    exact hK _ _ h1
theorem WA.one {l : List Oper} {i : Nat} {o : Oper} (hr : Region.ready .any l.toArray S.toArray = [i]) (ho : l[i]? = some o) (h : WL P l.toArray (ThenA P l.toArray Q g (S.set i true)) [o] fr hp) : WA P l.toArray Q (g + 1) S fr hp := WA.of fun P0 B w0 w a hh hf => by
  refine ⟨fun h0 => (by rw [hr] at h0; cases h0), fun j hj => ?_⟩
  rw [hr] at hj
  cases List.mem_singleton.1 hj
  exact WA.step (by simpa using ho) h hh hf
theorem ThenA.n (h : WA P ops Q g S fr hp) : ThenA P ops Q g S .normal fr hp := h
end
end Go.Proofs.YtmlikmldfdgmcaaGreat
