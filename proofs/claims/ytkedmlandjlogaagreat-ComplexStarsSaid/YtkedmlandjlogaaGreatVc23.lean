/-
  Part 23 of the texts that the claims of this seat lean on: walks of the program's functions by contracts over symbolic frames, and plain laws of what they compute. No condition.
-/
import Derived.Test.YtkedmlandjlogaaGreatVc8
import Derived.Test.YtkedmlandjlogaaGreatVc12
import Derived.Test.YtkedmlandjlogaaGreatVc16
import Derived.Test.YtkedmlandjlogaaGreatVc19
set_option linter.unusedVariables false
set_option linter.unusedSimpArgs false
set_option linter.unusedSectionVars false
namespace Go.Proofs.YtkedmlandjlogaaGreat
open Go.RowKit
section
variable {P : Program} {ops : Array Oper} {hp : List HObj} {o : Oper} {fr : List Dat} {d : Dat} {Q : Post} {rest : List Oper}
variable {dst : Option Tmp} {ty : TypeId} {ps : String} {af : Array Edge} {g : Option (Nat × Bool)} {e : TypeId} {b : Nat} {T1 T2 : TypeId} {v v' : Value} {α : Type} {R : Rel α} {_gR : Good R} {xs : List α}
abbrev hC1 (b : Nat) (T : TypeId) (v : Value) : HObj := hCell b T 1 true (dX (.agg #[v]))
theorem cellC1 {I : Nat → Prop} {w : World} (h : (hC1 b T2 v).ok I w) : w.heap[b]? = some (.cells #[v] T2) ∧ v.oneCell' = true := by
  obtain ⟨cs, u, h1, h2, h0, h3, h4, h5⟩ := h
  simp only [if_true] at h4
  cases (h5 : u = _)
  injection h4 with h4
  have hcs : cs = [v] := List.toArray_inj h4.symm
  subst hcs
  exact ⟨h1, h3 v (by simp)⟩
theorem SY.loadC1 {x : Operand} (T' : TyI P T1 1 false) (hx : OpD fr x (dX (.pointer (some ⟨b, 0, none⟩)))) (hm : hC1 b T2 v ∈ hp) : SY P ops hp { dst := dst, op := .load T1 x, type := ty, pos := ps, after := af, guard := g } fr (dX v) :=
  SY.valE fun {P0 B w0 w a} hh ho => by
    have h1 : a.eval x = .pointer (some ⟨b, 0, none⟩) := hx.get (by simp [Op.operands]) ho
    obtain ⟨c1, c2⟩ := cellC1 (hh.ok _ hm)
    have hc : Cells (fun _ => True) w b 0 1 false v := by
      refine ⟨trivial, [v], rfl, by decide, by simp [c2], fun i c hc => ?_, rfl⟩
      have hi : i = 0 := by
        have := (List.getElem?_eq_some_iff.1 hc).1
        simp at this; exact this
      subst hi
      cases hc
      simp [World.cell?, c1]
    refine ⟨v, w, ?_, Ext.refl _, rfl⟩
    unfold execOp
    simp only [h1, Sem.run_bind, run_loadC T' hc, Result.andThen_ok, Sem.run_pure]
theorem WL.storeC1 {t : Nat} {x : Operand} (T' : TyI P T1 1 false) (hp0 : OpD fr (.tmp t) (dX (.pointer (some ⟨b, 0, none⟩)))) (hx : OpD fr x (dX v')) (hm : hRow v' e R xs ∈ hp)
    (h : WL P ops Q rest (setD fr dst (dX undef)) (hC1 b T2 v' :: hp)) : WL P ops Q ({ dst := dst, op := .store T1 (.tmp t) x, type := ty, pos := ps, after := af, guard := none } :: rest) fr (hC1 b T2 v :: hp) := by
  refine WL.of fun P0 B w0 w a hh hf => ?_
  obtain ⟨c1, c2⟩ := cellC1 (hh.ok (hC1 b T2 v) (by simp))
  have h1 : a.eval x = v' := hx.ev hf
  have h2 : a.eval (.tmp t) = .pointer (some ⟨b, 0, none⟩) := hp0.ev hf
  have hone : v'.oneCell' = true := by
    obtain ⟨us, _, ⟨_, hv⟩, _⟩ := hh.ok (hRow v' e R xs) (List.mem_cons_of_mem _ hm)
    rcases hv with ⟨hv, _⟩ | ⟨g, cap, cur, hv, _⟩ <;> (rw [hv]; rfl)
  have hr := run_storeC (u := v') (cs := [v]) (cs' := [v']) T'.size c1 rfl rfl (by simp [hone]) (by rw [cells_one hone])
  have hrun : (execOp a.eval { dst := dst, op := .store T1 (.tmp t) x, type := ty, pos := ps, after := af, guard := none }).run P w = .ok .skip (w.setRow b #[v']) := by
    unfold execOp
    simp only [h1, h2, Sem.run_bind, hr, Result.andThen_ok, Sem.run_pure]
  refine wpList_plain rfl fun K hK => ?_
  unfold Oper.wp
  rw [hrun]
  have hgr : w.grownBy (w.setRow b #[v']) (hC1 b T2 v).blk := grown_setRow
  have hok : (hC1 b T2 v').ok (fun k => Imm P0 B (hC1 b T2 v :: hp) k ∧ k < w.heap.size) (w.setRow b #[v']) :=
    ⟨[v'], .agg #[v'], setRow_heap w b _ _ _ _ c1, rfl, by decide, by simp [hone], rfl, rfl⟩
  exact hK _ _ (h.on (hh.write hgr (.inl rfl) hok) (Fr.put (hf.mono fun _ _ hd => Hp.written (o' := hC1 b T2 v') hgr (.inl rfl) hd) (d := dX undef) rfl))
theorem WL.knowRow {c0 : Prop} (hm : hRow v e R xs ∈ hp) (hc : (∃ a c, v = .slice a xs.length c) → c0) (h : c0 → WL P ops Q rest fr hp) : WL P ops Q rest fr hp := WL.of fun _ _ _ _ _ hh hf => by
  refine (h (hc ?_)).on hh hf
  obtain ⟨us, _, ⟨_, hv⟩, _⟩ := hh.ok (hRow v e R xs) hm
  rcases hv with ⟨hv, h0⟩ | ⟨g, cap, cur, hv, _⟩
  · exact ⟨_, _, by rw [hv, h0]⟩
  · exact ⟨_, _, hv⟩
theorem set_slot {I : Nat → Prop} {w : World} {a : Act} (hf : Fr I w a fr) {s : Tmp} (hs : fr[s]? = some (dX v)) (hd : d.rd I w v) : Fr I w a (fr.set s d) := by
  refine ⟨hf.defers, by rw [hf.size, List.length_set], fun t' d' hd' => ?_⟩
  by_cases htt : s = t'
  · subst htt
    rw [List.getElem?_set] at hd'
    simp only [if_true] at hd'
    split at hd'
    · cases hd'
      have hv : a.tmps.getD s undef = v := hf.rd s _ hs
      rw [hv]; exact hd
    · cases hd'
  · rw [List.getElem?_set_ne htt] at hd'
    exact hf.rd t' d' hd'
theorem WL.keep2 {s t : Tmp} (hs : fr[s]? = some (dX v)) (ht : (fr.set s (dS (Arr R) xs))[t]? = some (dX v)) (h : WL P ops Q rest ((fr.set s (dS (Arr R) xs)).set t (dS (Arr R) xs)) hp) : WL P ops Q rest fr (hRow v e R xs :: hp) := WL.of fun _ _ _ _ _ hh hf =>
  h.on hh.drop (set_slot (keep_slot hf hs (d := dS (Arr R) xs) (Own.keep hh)) ht (Own.keep hh))
end
end Go.Proofs.YtkedmlandjlogaaGreat
namespace Go.Proofs.YtkedmlandjlogaaGreat
theorem mem_shared {a b : List Vx} {p : Bool} {x : Vx} : x ∈ sharedV a b p ↔ x ∈ a ∧ decide (x ∈ b) = p := by unfold sharedV; rw [List.mem_filter]; simp
theorem shared_sub {a b : List Vx} {p : Bool} : (sharedV a b p).Sublist a := List.filter_sublist
theorem asc_shared {a b : List Vx} {p : Bool} (h : Asc a) : Asc (sharedV a b p) := List.Pairwise.sublist shared_sub h
theorem sub_good {a s : List Vx} (ha : chkV a = 0) (hs : s.Sublist a) (hne : s ≠ []) : chkV s = 0 := by
  obtain ⟨h1, h2, h3, h4⟩ := chkV_zero.1 ha
  refine chkV_zero.2 ⟨fun h => hne (List.eq_nil_of_length_eq_zero h), Nat.le_trans hs.length_le h2, fun v hv => h3 v (hs.subset hv), List.Pairwise.sublist hs h4⟩
theorem ne_nil {s : List Vx} (h : 0 < s.length) : s ≠ [] := fun e => by subst e; simp at h
end Go.Proofs.YtkedmlandjlogaaGreat
namespace Go.Proofs.YtkedmlandjlogaaGreat
theorem subsV_mem : ∀ (k : Nat) (s x : List Vx), x ∈ subsV k s ↔ x.Sublist s ∧ x.length = k
  | 0, s, x => by
    have : subsV 0 s = [[]] := by unfold subsV; rfl
    rw [this, List.mem_singleton]
    constructor
    · rintro rfl; exact ⟨List.nil_sublist _, rfl⟩
    · rintro ⟨_, h⟩; exact List.eq_nil_of_length_eq_zero h
  | k + 1, [], x => by
    simp only [subsV, List.not_mem_nil, List.sublist_nil, false_iff]
    rintro ⟨rfl, h⟩; simp at h
  | k + 1, v :: s, x => by
    unfold subsV
    rw [List.mem_append, List.mem_map, subsV_mem (k + 1) s x]
    constructor
    · rintro (⟨y, hy, rfl⟩ | ⟨h1, h2⟩)
      · obtain ⟨h1, h2⟩ := (subsV_mem k s y).1 hy
        exact ⟨h1.cons_cons v, by simp [h2]⟩
      · exact ⟨h1.cons v, h2⟩
    · rintro ⟨h1, h2⟩
      rcases List.sublist_cons_iff.1 h1 with h | ⟨y, rfl, h⟩
      · exact .inr ⟨h, h2⟩
      · exact .inl ⟨y, (subsV_mem k s y).2 ⟨h, by simpa using h2⟩, rfl⟩
theorem subsV_zero (s : List Vx) : (subsV 0 s).length = 1 := by unfold subsV; rfl
theorem subsV_next (k : Nat) (v : Vx) (s : List Vx) : (subsV (k + 1) (v :: s)).length = (subsV k s).length + (subsV (k + 1) s).length := by
  conv => lhs; unfold subsV
  rw [List.length_append, List.length_map]
theorem subsV_card : ∀ (s : List Vx) (k : Nat), (subsV (k + 1) s).length * (k + 1) + (subsV k s).length * k = (subsV k s).length * s.length
  | [], 0 => by simp [subsV]
  | [], k + 1 => by simp [subsV]
  | v :: s, 0 => by
    have := subsV_card s 0
    rw [subsV_next, subsV_zero, subsV_zero] at *
    simp only [List.length_cons]
    omega
  | v :: s, k + 1 => by
    have h1 := subsV_card s k
    have h2 := subsV_card s (k + 1)
    rw [subsV_next, subsV_next]
    generalize (subsV k s).length = a at *
    generalize (subsV (k + 1) s).length = b at *
    generalize (subsV (k + 1 + 1) s).length = c at *
    simp only [List.length_cons]
    generalize s.length = n at *
    simp only [Nat.mul_add, Nat.add_mul, Nat.mul_one] at *
    omega
theorem subsV_all : ∀ (s : List Vx), (subsV s.length s).length = 1
  | [] => rfl
  | v :: s => by
    rw [List.length_cons, subsV_next, subsV_all s, subsV_short (s.length + 1) s (by omega)]; rfl
theorem subsV_most {s : List Vx} {k : Nat} (h : s.length = k + 1) : (subsV k s).length = k + 1 := by
  have h1 := subsV_card s k
  have h2 := subsV_all s
  rw [h] at h1 h2
  rw [h2] at h1
  simp only [Nat.mul_add, Nat.mul_one, Nat.one_mul] at h1
  omega
theorem cmpL_cons (v : Vx) (a b : List Vx) : cmpL (v :: a) (v :: b) = cmpL a b := by
  conv => lhs; unfold cmpL
  rw [if_pos (cmpV_eq.2 rfl)]
theorem subsV_sorted : ∀ (k : Nat) (s : List Vx), Asc s → (subsV k s).Pairwise fun a b => cmpL a b = -1
  | 0, s, _ => by unfold subsV; exact List.pairwise_singleton _ _
  | k + 1, [], _ => by unfold subsV; exact List.Pairwise.nil
  | k + 1, v :: s, h => by
    obtain ⟨h1, h2⟩ := List.pairwise_cons.1 h
    unfold subsV
    rw [List.pairwise_append]
    refine ⟨List.pairwise_map.2 (List.Pairwise.imp (fun {a b} hab => by rw [cmpL_cons]; exact hab) (subsV_sorted k s h2)), subsV_sorted (k + 1) s h2, fun a ha b hb => ?_⟩
    obtain ⟨a', _, rfl⟩ := List.mem_map.1 ha
    obtain ⟨hb1, hb2⟩ := (subsV_mem _ _ _).1 hb
    match b, hb1, hb2 with
    | w :: b', hb1, _ =>
      have hw : w ∈ s := hb1.subset (by simp)
      have hvw := h1 w hw
      have := cmpV_range v w
      unfold cmpL
      rw [if_neg (by omega)]
      omega
theorem face_good {a s : List Vx} {k : Nat} (hs : chkV s = 0) (hk : 0 < k) (h : a ∈ subsV k s) : chkV a = 0 ∧ a.Sublist s ∧ a.length = k := by
  obtain ⟨h1, h2⟩ := (subsV_mem _ _ _).1 h
  exact ⟨sub_good hs h1 (ne_nil (by omega)), h1, h2⟩
theorem facesV_good {s : List Vx} (hs : chkV s = 0) {k : Nat} (h1 : 0 < k) (h2 : k ≤ s.length) : facesV s k = (subsV k s, 0) := by
  unfold facesV
  rw [if_neg (by simp [hs]), if_neg (by omega)]
  simp
end Go.Proofs.YtkedmlandjlogaaGreat
namespace Go.Proofs.YtkedmlandjlogaaGreat
open Go.RowKit
set_option linter.unusedSimpArgs false

set_option maxHeartbeats 2000000
set_option maxRecDepth 100000
def twI (l : Cx) (i k : Nat) : Bool := decide (i ≠ k) && insideV (l.getD i []) (l.getD k [])
theorem any_snoc {n : Nat} {p : Nat → Bool} : (List.range (n + 1)).any p = ((List.range n).any p || p n) := by rw [List.range_succ, List.any_append]; simp
theorem any_yes {n k : Nat} {p : Nat → Bool} (hk : k < n) (h : p k = true) : (List.range n).any p = true := List.any_eq_true.2 ⟨k, List.mem_range.2 hk, h⟩
theorem getD_at {l : Cx} {k : Nat} (h : k < l.length) : l.getD k [] = l[k] := by simp [List.getD, h]
theorem chk27_c (l : Cx) : Fn Tryz.prog 28 [dS Cpx l] (dI (chkC l)) := by
  (refine Fn.intro1 Tryz.func28 rfl rfl ?_; simp only [Tryz.ntmps28, List.length_cons, List.length_nil, Nat.reduceAdd, Nat.reduceSub, List.replicate_succ, List.replicate_zero, List.cons_append, List.nil_append])
  ((repeat' (first | ((first | apply WL.opG | apply WD.op); (focus (apply SYG.yes; (exact want_none rfl); (first | (apply SY.move <;> (exact oD)) | (apply SY.assign <;> (exact oD)) | (apply SY.load; (exact tD); (exact OpD.t rfl))))); dsimp only [setD, z0, z1]) | refine WL.nil ?_ | refine WC.seqK fun Kx hK => ?_ | (refine hK _ _ ?_; clear hK) | refine WC.region ?_ | ((first | apply WL.opG | apply WD.op); (focus (first | (apply SYG.no; first | exact want_notT rfl rfl rfl (by with_reducible rfl) | exact want_notF rfl rfl rfl (by with_reducible rfl)) | (apply SYG.yes; (first | exact want_none rfl | exact want_yes rfl rfl rfl (by with_reducible rfl)); ((first | exact yGtr | exact yLen | exact yFieldaddr | exact yBox | fail); all_goals infer_instance)))); dsimp only [setD, z0, z1]) | (apply WC.condD; (exact oD); (all_goals intro h); (all_goals try (exfalso; first | omega | contradiction))) | refine WC.skip ?_ | refine WC.ret ?_ | refine WC.block ?_ | refine ThenD.r ?_)); all_goals (first | refine WC.id ?_ | refine WL.id ?_ | refine WDs.id ?_ | ((repeat clear hK); (repeat clear Kx))))
  · (refine ⟨trivial, _, rfl, ?_⟩; (first | exact fD | refine FinD.i ?_ | refine FinD.b ?_ | refine FinD.rowKE (.head _) ?_ | refine FinD.rowE (.head _) ?_ | refine FinD.nilKE (by decide) ?_ | refine FinD.nilE ?_ | refine FinD.s ?_))
    unfold chkC; rw [if_pos (by omega)]
  · have hs : chkC l = if chkO none l ≠ 0 then chkO none l else if twiceC l = true then 7 else 0 := by unfold chkC; rw [if_neg (by omega)]
    (refine WC.loopU (X := Nat) (fun k => [(4, dI (k : Int)), (2, dA), (5, dA), (13, dA), (14, dA), (15, dA), (16, dA), (17, dA), (18, dA), (19, dA), (20, dA), (21, dA), (22, dA), (23, dA), (24, dA), (25, dA), (26, dA), (27, dA), (28, dA), (29, dA), (30, dA), (31, dA), (32, dA), (33, dA), (34, dA), (35, dA), (36, dA), (37, dA), (38, dA), (39, dA), (40, dA), (41, dA)]) (fun k => []) (fun k => l.length - k) (fun k => k ≤ l.length ∧ chkO none l = chkO (l.take k).getLast? (l.drop k)) 0 ?start ?frame0 ?objs0 ?round)
    case start => exact ⟨Nat.zero_le _, rfl⟩
    case frame0 => ((try dsimp only [upds, z0, z1]); repeat (first | exact LeF.nil | refine LeF.cons (by first | with_reducible exact Dat.le_any _ | with_reducible exact Dat.le_refl _ | exact le_ii (by omega) | exact Dat.le_nil | exact Dat.le_nilK (by decide) | assumption | exact Dat.le_refl _ | exact le_eq (by simp)) ?_))
    case objs0 => rfl
    case round =>
      rintro k ⟨h3, h4⟩
      dsimp only [upds, z0, z1]
      ((repeat' (first | ((first | apply WL.opG | apply WD.op); (focus (apply SYG.yes; (exact want_none rfl); (first | (apply SY.move <;> (exact oD)) | (apply SY.assign <;> (exact oD)) | (apply SY.load; (exact tD); (exact OpD.t rfl))))); dsimp only [setD, z0, z1]) | refine WL.nil ?_ | refine WD.nil ?_ | refine WC.seqK fun Kx hK => ?_ | (refine hK _ _ ?_; clear hK) | (refine Kont.skip ?_; clear hK) | refine WC.region ?_ | (apply WC.draw; kernel_rfl; kernel_rfl) | ((first | apply WL.opG | apply WD.op); (focus (first | (apply SYG.no; first | exact want_notT rfl rfl rfl (by with_reducible rfl) | exact want_notF rfl rfl rfl (by with_reducible rfl)) | (apply SYG.yes; (first | exact want_none rfl | exact want_yes rfl rfl rfl (by with_reducible rfl)); ((first | (apply SY.call (cmpL_c _ _) Tryz.call95; (exact aD)) | (apply SY.call (chk_c _) Tryz.call90; (exact aD)) | (apply SY.ixJ elSi (OpD.t rfl) (OpD.t rfl) (k - 1); omega; omega) | exact yMove | exact yLss | exact yGtr | exact yGeq | exact yNeq | exact yAdd | exact ySub | exact yLoad | exact yLen | exact yIndexaddr | exact yPick | fail); all_goals infer_instance)))); dsimp only [setD, z0, z1]) | ((first | refine WL.caseP rfl rfl rfl (fun h => ?_) (fun h => ?_) | refine WL.caseN rfl rfl rfl (fun h => ?_) (fun h => ?_) | refine WL.caseB rfl rfl rfl (fun h => ?_) (fun h => ?_) | refine WD.caseP rfl rfl rfl (fun h => ?_) (fun h => ?_) | refine WD.caseN rfl rfl rfl (fun h => ?_) (fun h => ?_) | refine WD.caseB rfl rfl rfl (fun h => ?_) (fun h => ?_)) <;> (first | (exfalso; first | omega | contradiction) | (dsimp only [z0, z1]))) | (apply WC.condF; (exact oD); (with_reducible rfl)) | (apply WC.condD; (exact oD); (all_goals intro h); (all_goals try (exfalso; first | omega | contradiction))) | (apply WC.condN; (exact oD); (all_goals intro h); (all_goals try (exfalso; first | omega | contradiction))) | refine WC.skip ?_ | refine WC.ret ?_ | refine WC.exit ?_ | refine WC.block ?_ | refine ThenD.n ?_ | refine ThenD.r ?_ | refine InBlockD.r ?_)); all_goals (first | refine WC.id ?_ | refine WL.id ?_ | refine WDs.id ?_ | ((repeat clear hK); (repeat clear Kx))))
      all_goals try (rw [chkO_drop l k (by omega)] at h4)
      · (refine ⟨trivial, _, rfl, ?_⟩; (first | exact fD | refine FinD.i ?_ | refine FinD.b ?_ | refine FinD.rowKE (.head _) ?_ | refine FinD.rowE (.head _) ?_ | refine FinD.nilKE (by decide) ?_ | refine FinD.nilE ?_ | refine FinD.s ?_))
        rw [hs, h4, if_pos h, if_pos h]
      · (refine ⟨trivial, _, rfl, ?_⟩; (first | exact fD | refine FinD.i ?_ | refine FinD.b ?_ | refine FinD.rowKE (.head _) ?_ | refine FinD.rowE (.head _) ?_ | refine FinD.nilKE (by decide) ?_ | refine FinD.nilE ?_ | refine FinD.s ?_))
        have h5 : ¬ chkV l[k] ≠ 0 := by omega
        rw [if_neg h5, lastC_take _ _ (by omega) (by omega), if_pos (by simpa using h)] at h4
        rw [hs, h4]; rfl
      · (refine ⟨k + 1, ?_, by first | omega | (simp only; omega), rfl, ?_⟩; rotate_left; ((try dsimp only [upds, z0, z1]); repeat (first | exact LeF.nil | refine LeF.cons (by first | with_reducible exact Dat.le_any _ | with_reducible exact Dat.le_refl _ | exact le_ii (by omega) | exact Dat.le_nil | exact Dat.le_nilK (by decide) | assumption | exact Dat.le_refl _ | exact le_eq (by simp)) ?_)); (try dsimp only))
        refine ⟨by omega, ?_⟩
        have h5 : ¬ chkV l[k] ≠ 0 := by omega
        rw [h4, if_neg h5, lastC_take _ _ (by omega) (by omega), if_neg (by simpa using h)]
      · (refine ⟨k + 1, ?_, by first | omega | (simp only; omega), rfl, ?_⟩; rotate_left; ((try dsimp only [upds, z0, z1]); repeat (first | exact LeF.nil | refine LeF.cons (by first | with_reducible exact Dat.le_any _ | with_reducible exact Dat.le_refl _ | exact le_ii (by omega) | exact Dat.le_nil | exact Dat.le_nilK (by decide) | assumption | exact Dat.le_refl _ | exact le_eq (by simp)) ?_)); (try dsimp only))
        refine ⟨by omega, ?_⟩
        have h5 : ¬ chkV l[k] ≠ 0 := by omega
        have h0 : (l.take k).getLast? = none := by
          have : k = 0 := by omega
          rw [this]; rfl
        rw [h4, if_neg h5, h0]
        rfl
      · rw [List.drop_of_length_le (by omega)] at h4
        have h4' : chkO none l = 0 := h4
        have hs' : chkC l = if twiceC l = true then 7 else 0 := by rw [hs, if_neg (by omega)]
        clear hs h4
        (refine WC.loopU (X := Nat) (fun i => [(6, dI (i : Int)), (2, dA), (7, dA), (42, dA), (43, dA), (44, dA), (45, dA), (46, dA), (47, dA), (48, dA), (49, dA), (50, dA), (51, dA), (52, dA), (53, dA), (54, dA), (55, dA), (56, dA), (57, dA), (58, dA), (59, dA), (60, dA), (61, dA), (62, dA), (63, dA), (64, dA), (65, dA), (66, dA), (67, dA)]) (fun i => []) (fun i => l.length - i) (fun i => i ≤ l.length ∧ (List.range i).any (fun i => (List.range l.length).any (twI l i)) = false) 0 ?start ?frame0 ?objs0 ?round)
        case start => exact ⟨Nat.zero_le _, rfl⟩
        case frame0 => ((try dsimp only [upds, z0, z1]); repeat (first | exact LeF.nil | refine LeF.cons (by first | with_reducible exact Dat.le_any _ | with_reducible exact Dat.le_refl _ | exact le_ii (by omega) | exact Dat.le_nil | exact Dat.le_nilK (by decide) | assumption | exact Dat.le_refl _ | exact le_eq (by simp)) ?_))
        case objs0 => rfl
        case round =>
          rintro i ⟨h5, h6⟩
          dsimp only [upds, z0, z1]
          ((repeat' (first | ((first | apply WL.opG | apply WD.op); (focus (apply SYG.yes; (exact want_none rfl); (first | (apply SY.move <;> (exact oD)) | (apply SY.assign <;> (exact oD)) | (apply SY.load; (exact tD); (exact OpD.t rfl))))); dsimp only [setD, z0, z1]) | refine WL.nil ?_ | refine WC.seqK fun Kx hK => ?_ | (refine hK _ _ ?_; clear hK) | (refine Kont.skip ?_; clear hK) | refine WC.region ?_ | ((first | apply WL.opG | apply WD.op); (focus (first | (apply SYG.no; first | exact want_notT rfl rfl rfl (by with_reducible rfl) | exact want_notF rfl rfl rfl (by with_reducible rfl)) | (apply SYG.yes; (first | exact want_none rfl | exact want_yes rfl rfl rfl (by with_reducible rfl)); ((first | exact yLss | exact yLen | fail); all_goals infer_instance)))); dsimp only [setD, z0, z1]) | (apply WC.condD; (exact oD); (all_goals intro h); (all_goals try (exfalso; first | omega | contradiction))) | refine WC.skip ?_ | refine WC.ret ?_ | refine WC.exit ?_ | refine WC.block ?_)); all_goals (first | refine WC.id ?_ | refine WL.id ?_ | refine WDs.id ?_ | ((repeat clear hK); (repeat clear Kx))))
          · (refine WC.loopU (X := Nat) (fun j => [(7, dI (j : Int)), (2, dA), (48, dA), (49, dA), (50, dA), (51, dA), (52, dA), (53, dA), (54, dA), (55, dA), (56, dA), (57, dA), (58, dA), (59, dA), (60, dA), (61, dA), (62, dA), (63, dA), (64, dA), (65, dA), (66, dA), (67, dA)]) (fun j => []) (fun j => l.length - j) (fun j => j ≤ l.length ∧ (List.range j).any (twI l i) = false) 0 ?start ?frame0 ?objs0 ?round)
            case start => exact ⟨Nat.zero_le _, rfl⟩
            case frame0 => ((try dsimp only [upds, z0, z1]); repeat (first | exact LeF.nil | refine LeF.cons (by first | with_reducible exact Dat.le_any _ | with_reducible exact Dat.le_refl _ | exact le_ii (by omega) | exact Dat.le_nil | exact Dat.le_nilK (by decide) | assumption | exact Dat.le_refl _ | exact le_eq (by simp)) ?_))
            case objs0 => rfl
            case round =>
              rintro j ⟨h7, h8⟩
              dsimp only [upds, z0, z1]
              ((repeat' (first | ((first | apply WL.opG | apply WD.op); (focus (apply SYG.yes; (exact want_none rfl); (first | (apply SY.move <;> (exact oD)) | (apply SY.assign <;> (exact oD)) | (apply SY.load; (exact tD); (exact OpD.t rfl))))); dsimp only [setD, z0, z1]) | refine WL.nil ?_ | refine WD.nil ?_ | refine WC.seqK fun Kx hK => ?_ | (refine hK _ _ ?_; clear hK) | (refine Kont.skip ?_; clear hK) | refine WC.region ?_ | (apply WC.draw; kernel_rfl; kernel_rfl) | ((first | apply WL.opG | apply WD.op); (focus (first | (apply SYG.no; first | exact want_notT rfl rfl rfl (by with_reducible rfl) | exact want_notF rfl rfl rfl (by with_reducible rfl)) | (apply SYG.yes; (first | exact want_none rfl | exact want_yes rfl rfl rfl (by with_reducible rfl)); ((first | (apply SY.call (inside_c _ _) Tryz.call96; (exact aD)) | exact yMove | exact yLss | exact yNeq | exact yAdd | exact yLoad | exact yLen | exact yIndexaddr | exact yPick | fail); all_goals infer_instance)))); dsimp only [setD, z0, z1]) | ((first | refine WL.caseP rfl rfl rfl (fun h => ?_) (fun h => ?_) | refine WL.caseN rfl rfl rfl (fun h => ?_) (fun h => ?_) | refine WL.caseB rfl rfl rfl (fun h => ?_) (fun h => ?_) | refine WD.caseP rfl rfl rfl (fun h => ?_) (fun h => ?_) | refine WD.caseN rfl rfl rfl (fun h => ?_) (fun h => ?_) | refine WD.caseB rfl rfl rfl (fun h => ?_) (fun h => ?_)) <;> (first | (exfalso; first | omega | contradiction) | (dsimp only [z0, z1]))) | (apply WC.condF; (exact oD); (with_reducible rfl)) | (apply WC.condD; (exact oD); (all_goals intro h); (all_goals try (exfalso; first | omega | contradiction))) | (apply WC.cond; (exact oD); (all_goals intro h); (all_goals try (exfalso; first | omega | contradiction))) | refine WC.skip ?_ | refine WC.ret ?_ | refine WC.exit ?_ | refine WC.block ?_ | refine ThenD.n ?_ | refine ThenD.r ?_ | refine InBlockD.r ?_)); all_goals (first | refine WC.id ?_ | refine WL.id ?_ | refine WDs.id ?_ | ((repeat clear hK); (repeat clear Kx))))
              · (refine ⟨trivial, _, rfl, ?_⟩; (first | exact fD | refine FinD.i ?_ | refine FinD.b ?_ | refine FinD.rowKE (.head _) ?_ | refine FinD.rowE (.head _) ?_ | refine FinD.nilKE (by decide) ?_ | refine FinD.nilE ?_ | refine FinD.s ?_))
                have e : twI l i j = true := by
                  unfold twI
                  rw [getD_at (by omega), getD_at (by omega), h, decide_eq_true (by omega)]; rfl
                rw [hs', if_pos (show twiceC l = true from any_yes (k := i) (by omega) (any_yes (k := j) (by omega) e))]
              · (refine ⟨j + 1, ?_, by first | omega | (simp only; omega), rfl, ?_⟩; rotate_left; ((try dsimp only [upds, z0, z1]); repeat (first | exact LeF.nil | refine LeF.cons (by first | with_reducible exact Dat.le_any _ | with_reducible exact Dat.le_refl _ | exact le_ii (by omega) | exact Dat.le_nil | exact Dat.le_nilK (by decide) | assumption | exact Dat.le_refl _ | exact le_eq (by simp)) ?_)); (try dsimp only))
                refine ⟨by omega, ?_⟩
                rw [any_snoc, h8]
                unfold twI
                rw [getD_at (by omega), getD_at (by omega), h, Bool.and_false]; rfl
              · (refine ⟨j + 1, ?_, by first | omega | (simp only; omega), rfl, ?_⟩; rotate_left; ((try dsimp only [upds, z0, z1]); repeat (first | exact LeF.nil | refine LeF.cons (by first | with_reducible exact Dat.le_any _ | with_reducible exact Dat.le_refl _ | exact le_ii (by omega) | exact Dat.le_nil | exact Dat.le_nilK (by decide) | assumption | exact Dat.le_refl _ | exact le_eq (by simp)) ?_)); (try dsimp only))
                refine ⟨by omega, ?_⟩
                rw [any_snoc, h8]
                unfold twI
                rw [decide_eq_false (by omega)]; rfl
              · rw [show j = l.length by omega] at h8
                (refine ⟨i + 1, ?_, by first | omega | (simp only; omega), rfl, ?_⟩; rotate_left; ((try dsimp only [upds, z0, z1]); repeat (first | exact LeF.nil | refine LeF.cons (by first | with_reducible exact Dat.le_any _ | with_reducible exact Dat.le_refl _ | exact le_ii (by omega) | exact Dat.le_nil | exact Dat.le_nilK (by decide) | assumption | exact Dat.le_refl _ | exact le_eq (by simp)) ?_)); (try dsimp only))
                refine ⟨by omega, ?_⟩
                rw [any_snoc, h6, h8]; rfl
          · rw [show i = l.length by omega] at h6
            (refine ⟨trivial, _, rfl, ?_⟩; (first | exact fD | refine FinD.i ?_ | refine FinD.b ?_ | refine FinD.rowKE (.head _) ?_ | refine FinD.rowE (.head _) ?_ | refine FinD.nilKE (by decide) ?_ | refine FinD.nilE ?_ | refine FinD.s ?_))
            have e : twiceC l = false := h6
            rw [hs', e]; rfl
def dimC (l : Cx) : Int := l.foldl (fun m s => if m < (s.length : Int) - 1 then (s.length : Int) - 1 else m) (-1)
def sizeP (l : Cx) : Bool := (List.range l.length).all fun i => decide (i = 0) || decide (((l.getD i []).length : Int) - 1 = dimC (l.take i))
theorem dimC_snoc {l : Cx} {k : Nat} (h : k < l.length) : dimC (l.take (k + 1)) = if dimC (l.take k) < (l[k].length : Int) - 1 then (l[k].length : Int) - 1 else dimC (l.take k) := by
  unfold dimC; rw [take_snoc' h, List.foldl_append]; rfl
theorem size_c (l : Cx) : Fn Tryz.prog 75 [dS Cpx l] (dT [dI (dimC l), dB (sizeP l)]) := by
  (refine Fn.intro2 Tryz.func75 rfl rfl ?_; simp only [Tryz.ntmps75, List.length_cons, List.length_nil, Nat.reduceAdd, Nat.reduceSub, List.replicate_succ, List.replicate_zero, List.cons_append, List.nil_append])
  ((repeat' (first | (apply WL.opG; (focus (apply SYG.yes; (exact want_none rfl); (first | (apply SY.move <;> (exact oD)) | (apply SY.assign <;> (exact oD)) | (apply SY.load; (exact tD); (exact OpD.t rfl))))); dsimp only [setD, z0, z1]) | refine WL.nil ?_ | refine WC.seqK fun Kx hK => ?_ | (refine hK _ _ ?_; clear hK) | refine WC.region ?_ | (apply WL.opG; (focus (first | (apply SYG.no; first | exact want_notT rfl rfl rfl (by with_reducible rfl) | exact want_notF rfl rfl rfl (by with_reducible rfl)) | (apply SYG.yes; (first | exact want_none rfl | exact want_yes rfl rfl rfl (by with_reducible rfl)); ((first | exact yBox | fail); all_goals infer_instance)))); dsimp only [setD, z0, z1]) | refine WC.block ?_)); all_goals (first | refine WC.id ?_ | refine WL.id ?_ | refine WDs.id ?_ | ((repeat clear hK); (repeat clear Kx))))
  (first | refine WC.know (t := 0) rfl le_K fun hl0 => ?_ | refine WC.know (t := 0) rfl le_A fun hl0 => ?_ | refine WC.know (t := 0) rfl le_C fun hl0 => ?_); simp only [maxLen] at hl0
  (refine WC.loopU (X := Nat × Int × Bool) (fun x => [(6, dI (x.1 : Int)), (4, dI x.2.1), (5, dB x.2.2), (7, dA), (8, dA), (9, dA), (10, dA), (11, dA), (12, dA), (13, dA), (14, dA), (15, dA), (16, dA), (17, dA), (18, dA), (19, dA), (20, dA), (21, dA), (22, dA), (23, dA), (24, dA), (25, dA), (26, dA), (27, dA), (28, dA), (29, dA), (30, dA), (31, dA), (32, dA), (33, dA), (34, dA), (35, dA)]) (fun x => []) (fun x => l.length - x.1) (fun x => x.1 ≤ l.length ∧ x.2.1 = dimC (l.take x.1) ∧ x.2.2 = (List.range x.1).all fun i => decide (i = 0) || decide (((l.getD i []).length : Int) - 1 = dimC (l.take i))) (0, -1, true) ?start ?frame0 ?objs0 ?round)
  case start => exact ⟨Nat.zero_le _, rfl, rfl⟩
  case frame0 => ((try dsimp only [upds, z0, z1]); repeat (first | exact LeF.nil | refine LeF.cons (by first | with_reducible exact Dat.le_any _ | with_reducible exact Dat.le_refl _ | exact le_ii (by omega) | exact Dat.le_nil | exact Dat.le_nilK (by decide) | assumption | exact Dat.le_refl _ | exact le_eq (by simp)) ?_))
  case objs0 => rfl
  case round =>
    rintro ⟨k, m, q⟩ ⟨h1, h2, h3⟩
    simp only at h1 h2 h3
    dsimp only [upds, z0, z1]
    ((repeat' (first | (apply WL.opG; (focus (apply SYG.yes; (exact want_none rfl); (first | (apply SY.move <;> (exact oD)) | (apply SY.assign <;> (exact oD)) | (apply SY.load; (exact tD); (exact OpD.t rfl))))); dsimp only [setD, z0, z1]) | refine WL.nil ?_ | refine WC.seqK fun Kx hK => ?_ | (refine hK _ _ ?_; clear hK) | (refine Kont.skip ?_; clear hK) | refine WC.region ?_ | (apply WL.opG; (focus (first | (apply SYG.no; first | exact want_notT rfl rfl rfl (by with_reducible rfl) | exact want_notF rfl rfl rfl (by with_reducible rfl)) | (apply SYG.yes; (first | exact want_none rfl | exact want_yes rfl rfl rfl (by with_reducible rfl)); ((first | exact yLss | exact yLen | exact yIndexaddr | exact yFieldaddr | fail); all_goals infer_instance)))); dsimp only [setD, z0, z1]) | (apply WC.condD; (exact oD); (all_goals intro h); (all_goals try (exfalso; first | omega | contradiction))) | refine WC.skip ?_ | refine WC.ret ?_ | refine WC.exit ?_ | refine WC.block ?_)); all_goals (first | refine WC.id ?_ | refine WL.id ?_ | refine WDs.id ?_ | ((repeat clear hK); (repeat clear Kx))))
    · refine WL.know (t := 19) rfl le_K fun h9 => ?_
      simp only [maxLen] at h9
      have e9 : (l.getD k []).length = l[k].length := by rw [getD_at (by omega)]
      have st : ∀ (q' : Bool), q' = (q && (decide (k = 0) || decide (((l[k].length : Nat) : Int) - 1 = m))) → q' = (List.range (k + 1)).all fun i => decide (i = 0) || decide (((l.getD i []).length : Int) - 1 = dimC (l.take i)) := fun q' hq => by
        rw [hq, h3, List.range_succ, List.all_append, h2, ← e9]
        simp
      clear h3
      ((repeat' (first | (apply WL.opG; (focus (apply SYG.yes; (exact want_none rfl); (first | (apply SY.move <;> (exact oD)) | (apply SY.assign <;> (exact oD)) | (apply SY.load; (exact tD); (exact OpD.t rfl))))); dsimp only [setD, z0, z1]) | refine WL.nil ?_ | refine WC.seqK fun Kx hK => ?_ | (refine hK _ _ ?_; clear hK) | refine WC.region ?_ |  (apply WL.opG; (focus (apply SYG.no; exact want_undef rfl rfl rfl)); dsimp only [setD, z0, z1]) | (apply WL.opG; (focus (first | (apply SYG.no; first | exact want_notT rfl rfl rfl (by with_reducible rfl) | exact want_notF rfl rfl rfl (by with_reducible rfl)) | (apply SYG.yes; (first | exact want_none rfl | exact want_yes rfl rfl rfl (by with_reducible rfl)); ((first | exact yMove | exact yGtr | exact yEql | exact yAdd | exact ySub | exact yPick | fail); all_goals infer_instance)))); dsimp only [setD, z0, z1]) | ((first | refine WL.caseP rfl rfl rfl (fun h => ?_) (fun h => ?_) | refine WL.caseN rfl rfl rfl (fun h => ?_) (fun h => ?_) | refine WL.caseB rfl rfl rfl (fun h => ?_) (fun h => ?_)) <;> (first | (exfalso; first | omega | contradiction) | (dsimp only [z0, z1]))) | (apply WC.condD; (exact oD); (all_goals intro h); (all_goals try (exfalso; first | omega | contradiction))) | refine WC.skip ?_ | refine ThenD.n ?_)); all_goals (first | refine WC.id ?_ | refine WL.id ?_ | refine WDs.id ?_ | ((repeat clear hK); (repeat clear Kx))))
      · (refine ⟨(k + 1, (l[k].length : Int) - 1, true), ?_, by first | omega | (simp only; omega), rfl, ?_⟩; rotate_left; ((try dsimp only [upds, z0, z1]); repeat (first | exact LeF.nil | refine LeF.cons (by first | with_reducible exact Dat.le_any _ | with_reducible exact Dat.le_refl _ | exact le_ii (by omega) | exact Dat.le_nil | exact Dat.le_nilK (by decide) | assumption | exact Dat.le_refl _ | exact le_eq (by simp)) ?_)); (try dsimp only))
        refine ⟨by omega, ?_, st _ ?_⟩
        · rw [dimC_snoc (by omega), ← h2, if_pos (by assumption)]
        · simp_all
      · (refine ⟨(k + 1, m, true), ?_, by first | omega | (simp only; omega), rfl, ?_⟩; rotate_left; ((try dsimp only [upds, z0, z1]); repeat (first | exact LeF.nil | refine LeF.cons (by first | with_reducible exact Dat.le_any _ | with_reducible exact Dat.le_refl _ | exact le_ii (by omega) | exact Dat.le_nil | exact Dat.le_nilK (by decide) | assumption | exact Dat.le_refl _ | exact le_eq (by simp)) ?_)); (try dsimp only))
        refine ⟨by omega, ?_, st _ ?_⟩
        · rw [dimC_snoc (by omega), ← h2, if_neg (by assumption)]
        · simp_all
      · (refine ⟨(k + 1, (l[k].length : Int) - 1, decide ((l[k].length : Int) - 1 = m)), ?_, by first | omega | (simp only; omega), rfl, ?_⟩; rotate_left; ((try dsimp only [upds, z0, z1]); repeat (first | exact LeF.nil | refine LeF.cons (by first | with_reducible exact Dat.le_any _ | with_reducible exact Dat.le_refl _ | exact le_ii (by omega) | exact Dat.le_nil | exact Dat.le_nilK (by decide) | assumption | exact Dat.le_refl _ | exact le_eq (by simp)) ?_)); (try dsimp only))
        refine ⟨by omega, ?_, st _ ?_⟩
        · rw [dimC_snoc (by omega), ← h2, if_pos (by assumption)]
        · simp_all
      · (refine ⟨(k + 1, m, decide ((l[k].length : Int) - 1 = m)), ?_, by first | omega | (simp only; omega), rfl, ?_⟩; rotate_left; ((try dsimp only [upds, z0, z1]); repeat (first | exact LeF.nil | refine LeF.cons (by first | with_reducible exact Dat.le_any _ | with_reducible exact Dat.le_refl _ | exact le_ii (by omega) | exact Dat.le_nil | exact Dat.le_nilK (by decide) | assumption | exact Dat.le_refl _ | exact le_eq (by simp)) ?_)); (try dsimp only))
        refine ⟨by omega, ?_, st _ ?_⟩
        · rw [dimC_snoc (by omega), ← h2, if_neg (by assumption)]
        · simp_all
      · (refine ⟨(k + 1, (l[k].length : Int) - 1, false), ?_, by first | omega | (simp only; omega), rfl, ?_⟩; rotate_left; ((try dsimp only [upds, z0, z1]); repeat (first | exact LeF.nil | refine LeF.cons (by first | with_reducible exact Dat.le_any _ | with_reducible exact Dat.le_refl _ | exact le_ii (by omega) | exact Dat.le_nil | exact Dat.le_nilK (by decide) | assumption | exact Dat.le_refl _ | exact le_eq (by simp)) ?_)); (try dsimp only))
        refine ⟨by omega, ?_, st _ ?_⟩
        · rw [dimC_snoc (by omega), ← h2, if_pos (by assumption)]
        · simp_all
      · (refine ⟨(k + 1, m, false), ?_, by first | omega | (simp only; omega), rfl, ?_⟩; rotate_left; ((try dsimp only [upds, z0, z1]); repeat (first | exact LeF.nil | refine LeF.cons (by first | with_reducible exact Dat.le_any _ | with_reducible exact Dat.le_refl _ | exact le_ii (by omega) | exact Dat.le_nil | exact Dat.le_nilK (by decide) | assumption | exact Dat.le_refl _ | exact le_eq (by simp)) ?_)); (try dsimp only))
        refine ⟨by omega, ?_, st _ ?_⟩
        · rw [dimC_snoc (by omega), ← h2, if_neg (by assumption)]
        · simp_all
    · rw [show k = l.length by omega, List.take_length] at h2
      rw [show k = l.length by omega] at h3
      subst h2 h3
      (refine ⟨trivial, ⟨_, rfl, ?_⟩, _, rfl, ?_⟩ <;> (first | exact fD | refine FinD.i ?_ | refine FinD.b ?_ | refine FinD.rowKE (.head _) ?_ | refine FinD.rowE (.head _) ?_ | refine FinD.nilKE (by decide) ?_ | refine FinD.nilE ?_ | refine FinD.s ?_))
theorem chkO_all : ∀ (l : Cx) (p : Option (List Vx)), chkO p l = 0 → ∀ s ∈ l, chkV s = 0
  | [], _, _, s, hs => by simp at hs
  | x :: l, p, h, s, hs => by
    unfold chkO at h
    by_cases h1 : chkV x ≠ 0
    · rw [if_pos h1] at h; exact absurd h h1
    · rw [if_neg h1] at h
      rcases List.mem_cons.1 hs with rfl | hs
      · omega
      · refine chkO_all l (some x) ?_ s hs
        revert h
        split
        · intro h; omega
        · exact id
theorem chkC_good {l : Cx} (h : chkC l = 0) : l.length ≤ 4096 ∧ chkO none l = 0 ∧ twiceC l = false ∧ ∀ s ∈ l, chkV s = 0 := by
  unfold chkC at h
  by_cases h1 : 4096 < l.length
  · rw [if_pos h1] at h; omega
  rw [if_neg h1] at h
  by_cases h2 : chkO none l ≠ 0
  · rw [if_pos h2] at h; exact absurd h h2
  rw [if_neg h2] at h
  refine ⟨by omega, by omega, ?_, chkO_all l none (by omega)⟩
  cases h3 : twiceC l with
  | false => rfl
  | true => rw [h3, if_pos rfl] at h; omega
end Go.Proofs.YtkedmlandjlogaaGreat
