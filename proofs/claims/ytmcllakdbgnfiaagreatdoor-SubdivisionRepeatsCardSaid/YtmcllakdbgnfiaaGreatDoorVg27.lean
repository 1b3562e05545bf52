/- Part 27: walks by contracts, and plain laws. -/
import Derived.Test.YtmcllakdbgnfiaaGreatDoorVg25
import Derived.Test.YtmcllakdbgnfiaaGreatDoorVg26
set_option linter.unusedVariables false
set_option linter.unusedSimpArgs false
set_option linter.unusedSectionVars false
set_option maxRecDepth 100000
set_option maxHeartbeats 4000000
namespace Go.Proofs.YtmcllakdbgnfiaaGreatDoor
section
open Go.RowKit

theorem mapT_inc : MapT Tryz.prog 128 45 51 (.slice none 0 0) := ⟨Tryz.underlying128, fun w => by kernel_rfl⟩
abbrev IncM := List (Vx × Value × List Int)
abbrev hI (b : Nat) (M : IncM) : HObj := hM b kvV (fun p : Value × List Int => p.1) M
def rowsI (M : IncM) : List HObj := M.map fun p => ZU p.2.1 3 RI p.2.2
def contI (M : IncM) : List (Vx × List Int) := M.map fun p => (p.1, p.2.2)
theorem contI_keys (M : IncM) : (contI M).map (·.1) = M.map (·.1) := by unfold contI; rw [List.map_map]; rfl
theorem perm_set {α : Type} (a : α) : ∀ (l : List α) (q : Nat), q < l.length -> (a :: l.eraseIdx q).Perm (l.set q a)
 | [], q, h => by simp at h
 | x :: l, 0, _ => by simp
 | x :: l, q + 1, h => by
  simp only [List.eraseIdx_cons_succ, List.set_cons_succ]
  exact (List.Perm.swap _ _ _).trans (List.Perm.cons _ (perm_set a l q (by simpa using h)))
theorem perm_at {α : Type} (l : List α) (q : Nat) (h : q < l.length) : (l[q] :: l.eraseIdx q).Perm l := by
 have := perm_set l[q] l q h
 rwa [List.set_getElem_self] at this
theorem map_set_key {α β : Type} (M : List (α × β)) (q : Nat) (h : q < M.length) (u : β) : (M.set q (M[q].1, u)).map (·.1) = M.map (·.1) := by
 rw [List.map_set]
 have : (M.map (·.1))[q]'(by simpa using h) = M[q].1 := by simp
 rw [<- this, List.set_getElem_self]
theorem contI_set {M : IncM} (hn : (M.map (·.1)).Nodup) {q : Nat} (h : q < M.length) (v' : Value) (i : Int) : contI (M.set q (M[q].1, (v', M[q].2.2 ++ [i]))) = addI (contI M) M[q].1 i := by
 have hl : q < (contI M).length := by simpa [contI] using h
 have e1 : (contI M)[q] = (M[q].1, M[q].2.2) := by simp [contI]
 have hn' : ((contI M).map (·.1)).Nodup := by rw [contI_keys]; exact hn
 have h2 := lookM_some hn' hl
 have h3 := putM_set hn' (v := M[q].2.2 ++ [i]) hl
 rw [e1] at h2 h3
 unfold addI
 rw [h2]
 show _ = ZBP (contI M) M[q].1 (M[q].2.2 ++ [i])
 rw [h3]
 unfold contI
 rw [List.map_set]
theorem contI_new {M : IncM} {v : Vx} (hne : ∀ p ∈ M, p.1 ≠ v) (v' : Value) (i : Int) : contI (M ++ [(v, (v', [i]))]) = addI (contI M) v i := by
 have hne' : ∀ p ∈ contI M, p.1 ≠ v := fun p hp => by
  obtain ⟨q, hq, rfl⟩ := List.mem_map.1 hp
  exact hne q hq
 unfold addI
 rw [lookM_none hne', ZCY hne']
 simp [contI]
theorem rowsI_set (M : IncM) (q : Nat) (h : q < M.length) (p : Vx × Value × List Int) : (ZU p.2.1 3 RI p.2.2 :: (rowsI M).eraseIdx q).Perm (rowsI (M.set q p)) := by
 have := perm_set (ZU p.2.1 3 RI p.2.2) (rowsI M) q (by simpa [rowsI] using h)
 have e : rowsI (M.set q p) = (rowsI M).set q (ZU p.2.1 3 RI p.2.2) := by unfold rowsI; rw [List.map_set]
 rw [e]; exact this
theorem rowsI_snoc (M : IncM) (p : Vx × Value × List Int) : (ZU p.2.1 3 RI p.2.2 :: rowsI M).Perm (rowsI (M ++ [p])) := by
 unfold rowsI
 rw [List.map_append]
 exact (List.perm_append_singleton _ _).symm
theorem incidence_p (l : Cx) (hl : l.length <= 1000000) (hs : ∀ s ∈ l, ∀ v ∈ s, okV v) (h8 : ∀ s ∈ l, s.length <= 1000) : Fn Tryz.prog 89 [dS Zq l] (dS (MapR kvV ZCE) (incC l)) := by
 (refine ZE Tryz.func89 rfl rfl ?_; simp only [Tryz.ntmps89, List.length_cons, List.length_nil, Nat.reduceAdd, Nat.reduceSub, List.replicate_succ, List.replicate_zero, List.cons_append, List.nil_append])
 (repeat' (first | (apply WL.opN; exact yF; dsimp only [ZB, z0, z1]) | refine WL.nil ?_ | refine ZA fun Kx hK => ?_ | (refine hK _ _ ?_; clear hK) | refine WC.region ?_ |  (refine WL.makeMap kvV (fun p : Value × List Int => p.1) fun b => ?_; dsimp only [ZB, z0, z1]) | (apply WL.opN; (focus ((first | exact ZBV | fail); all_goals infer_instance)); dsimp only [ZB, z0, z1]) | refine WC.block ?_))
 (refine WC.loopU (X := Nat × IncM) (fun x => [(11, dI (x.1 : Int)), (4, dA), (5, dA), (7, dA), (12, dA), (13, dA), (14, dA), (15, dA), (16, dA), (17, dA), (18, dA), (19, dA), (20, dA), (21, dA), (22, dA), (23, dA), (24, dA), (25, dA), (26, dA), (27, dA), (28, dA), (29, dA), (30, dA), (31, dA)]) (fun x => hI b x.2 :: rowsI x.2) (fun x => l.length - x.1) (fun x => x.1 <= l.length /\ (x.2.map (·.1)).Nodup /\ (∀ p ∈ x.2, okV p.1) /\ (∀ p ∈ x.2, p.2.2.length <= 2000 * x.1) /\ contI x.2 = incC (l.take x.1)) (0, []) ?start ?frame0 ?objs0 ?round)
 case start => exact ⟨Nat.zero_le _, by simp, by simp, by simp, rfl⟩
 case frame0 => ((try dsimp only [ZL, z0, z1]); repeat (first | exact LeF.nil | refine ZD (k := ?_)))
 case objs0 => rfl
 case round =>
  rintro ⟨i, M⟩ ⟨h1, h2, h3, h4, h5⟩
  simp only at h1 h2 h3 h4 h5
  dsimp only [ZL, z0, z1]
  ((repeat' (first | (apply WL.opN; exact yF; dsimp only [ZB, z0, z1]) | refine WL.nil ?_ | refine ZA fun Kx hK => ?_ | (refine hK _ _ ?_; clear hK) | (refine Kont.skip ?_; clear hK) | refine WC.region ?_ | (apply WL.opN; (focus ((first | exact ZBu | exact ZBV | exact ZT | fail); all_goals infer_instance)); dsimp only [ZB, z0, z1]) | (apply ZC; (exact oD); all_goals (intro h; try exact xD)) | refine WC.skip ?_ | refine WC.ret ?_ | refine WC.exit ?_ | refine WC.block ?_)); all_goals (first | refine WC.id ?_ | ((repeat clear hK); (repeat clear Kx))))
  ·have hm := List.getElem_mem (show i < l.length by omega)
   have h8m := h8 _ hm
   (refine WC.loopU (X := Nat × IncM) (fun x => [(18, dI (x.1 : Int)), (7, dA), (19, dA), (20, dA), (21, dA), (22, dA), (23, dA), (24, dA), (25, dA), (26, dA), (27, dA), (28, dA), (29, dA), (30, dA)]) (fun x => hI b x.2 :: rowsI x.2) (fun x => l[i].length - x.1) (fun x => x.1 <= l[i].length /\ (x.2.map (·.1)).Nodup /\ (∀ p ∈ x.2, okV p.1) /\ (∀ p ∈ x.2, p.2.2.length <= 2000 * i + x.1) /\ contI x.2 = incS (incC (l.take i)) (l[i].take x.1) (i : Int)) (0, M) ?start ?frame0 ?objs0 ?round)
   case start => exact ⟨Nat.zero_le _, h2, h3, h4, h5⟩
   case frame0 => ((try dsimp only [ZL, z0, z1]); repeat (first | exact LeF.nil | refine ZD (k := ?_)))
   case objs0 => rfl
   case round =>
    rintro ⟨j, M⟩ ⟨g1, g2, g3, g4, g5⟩
    simp only at g1 g2 g3 g4 g5
    dsimp only [ZL, z0, z1]
    ((repeat' (first | (apply WL.opN; exact yF; dsimp only [ZB, z0, z1]) | refine WL.nil ?_ | refine ZA fun Kx hK => ?_ | (refine hK _ _ ?_; clear hK) | (refine Kont.skip ?_; clear hK) | refine WC.region ?_ | (apply WL.alloc; (first | exact tzV | exact tzC); (first | exact ZW rfl | exact Zs | exact Zi rfl); (intro _; dsimp only [ZB, z0, z1])) | (apply WL.storeF; (exact tD); rfl; (exact oD); (exact hD); dsimp only [ZB, z0, z1]) | (apply WL.opN; (focus ((first | exact ZBu | exact yAdd | exact ZT | exact ZCV | fail); all_goals infer_instance)); dsimp only [ZB, z0, z1]) | (apply ZC; (exact oD); all_goals (intro h; try exact xD)) | refine WC.skip ?_ | refine WC.exit ?_ | refine WC.block ?_ | refine ThenD.n ?_)); all_goals (first | refine WL.id ?_ | ((repeat clear hK); (repeat clear Kx))))
    ·have hjl : j < l[i].length := by omega
     refine WL.entM (zv := ((.slice none 0 0, []) : Value × List Int)) rfl mapT_inc keyT_V (OpD.t rfl) (OpD.t rfl) ⟨fun _ _ _ h => h⟩ (hs _ hm _ (List.getElem_mem hjl)) g3 (fun q hq hqv => ?_) (fun hne => ?_)
     ·have hq' : q < (rowsI M).length := by unfold rowsI; simpa using hq
      have hrow : (rowsI M)[q] = ZU M[q].2.1 3 RI M[q].2.2 := by simp [rowsI]
      have hlen := g4 _ (List.getElem_mem hq)
      refine WL.perm (((List.Perm.cons _ (perm_at _ q hq').symm)).trans (List.Perm.swap _ _ _)) ?_
      rw [hrow]
      dsimp only [ZB, z0, z1]
      (repeat' (first | ((first | apply WL.appK | apply WL.app1); (exact eD); exact OpD.t rfl; (exact oD); decide; (exact lD); (intro _; dsimp only [ZB, z0, z1]); all_goals (try infer_instance)) | (apply WL.opN; (focus ((first | exact yExtract | fail); all_goals infer_instance)); dsimp only [ZB, z0, z1])))
      rename_i v'
      refine WL.perm (List.Perm.swap _ _ _) ?_
      refine WL.entS (u := (v', M[q].2.2 ++ [(i : Int)])) (OpD.t rfl) (OpD.t rfl) (OpD.t rfl) ⟨fun _ _ _ h => h⟩ hq ?_
      refine WL.perm (List.Perm.cons _ (rowsI_set M q hq (M[q].1, (v', M[q].2.2 ++ [(i : Int)])))) ?_
      dsimp only [ZB]
      ((repeat' (first | (apply WL.opN; exact yF; dsimp only [ZB, z0, z1]) | refine WL.nil ?_ | (refine hK _ _ ?_; clear hK) | refine WC.region ?_ | (apply WL.opN; (focus ((first | exact yAdd | fail); all_goals infer_instance)); dsimp only [ZB, z0, z1]) | refine ThenD.n ?_)); all_goals (first | ((repeat clear hK); (repeat clear Kx))))
      (refine ⟨(j + 1, M.set q (M[q].1, (v', M[q].2.2 ++ [(i : Int)]))), ?_, by first | omega | (simp only; omega), rfl, ?_⟩; rotate_left; ((try dsimp only [ZL, z0, z1]); repeat (first | exact LeF.nil | refine ZD (k := ?_))); (try dsimp only))
      refine ⟨by omega, ?_, ?_, ?_, ?_⟩
      ·rw [map_set_key]; exact g2
      ·intro p hp
       rcases List.mem_or_eq_of_mem_set hp with hp | rfl
       ·exact g3 p hp
       ·exact (show okV M[q].1 from g3 _ (List.getElem_mem hq))
      ·intro p hp
       rcases List.mem_or_eq_of_mem_set hp with hp | rfl
       ·have := g4 p hp; omega
       ·simp only [List.length_append, List.length_cons, List.length_nil]; omega
      ·rw [contI_set g2 hq, g5, hqv, <- incS_snoc]
     ·refine ZAk 3 RI ?_
      dsimp only [ZB, z0, z1]
      (repeat' (first | ((first | apply WL.appK | apply WL.app1); (exact eD); exact OpD.t rfl; (exact oD); decide; (exact lD); (intro _; dsimp only [ZB, z0, z1]); all_goals (try infer_instance)) | (apply WL.opN; (focus ((first | exact yExtract | fail); all_goals infer_instance)); dsimp only [ZB, z0, z1])))
      rename_i v'
      refine WL.perm (List.Perm.swap _ _ _) ?_
      have hlen : M.length < (M ++ [((l[i][j], ((.slice none 0 0, []) : Value × List Int)))]).length := by simp
      refine WL.entS (j := M.length) (u := (v', [(i : Int)])) (OpD.t rfl) (OpD.t rfl) (OpD.t rfl) ⟨fun _ _ _ h => h⟩ hlen ?_
      have eset : (M ++ [((l[i][j], ((.slice none 0 0, []) : Value × List Int)))]).set M.length ((M ++ [((l[i][j], ((.slice none 0 0, []) : Value × List Int)))])[M.length].1, (v', [(i : Int)])) = M ++ [(l[i][j], (v', [(i : Int)]))] := by simp
      rw [eset]
      refine WL.perm (List.Perm.cons _ (rowsI_snoc M (l[i][j], (v', [(i : Int)])))) ?_
      dsimp only [ZB]
      ((repeat' (first | (apply WL.opN; exact yF; dsimp only [ZB, z0, z1]) | refine WL.nil ?_ | (refine hK _ _ ?_; clear hK) | refine WC.region ?_ | (apply WL.opN; (focus ((first | exact yAdd | fail); all_goals infer_instance)); dsimp only [ZB, z0, z1]) | refine ThenD.n ?_)); all_goals (first | ((repeat clear hK); (repeat clear Kx))))
      (refine ⟨(j + 1, M ++ [(l[i][j], (v', [(i : Int)]))]), ?_, by first | omega | (simp only; omega), rfl, ?_⟩; rotate_left; ((try dsimp only [ZL, z0, z1]); repeat (first | exact LeF.nil | refine ZD (k := ?_))); (try dsimp only))
      refine ⟨by omega, ?_, ?_, ?_, ?_⟩
      ·rw [List.map_append, List.nodup_append]
       refine ⟨g2, by simp, fun a ha c hc => ?_⟩
       have : c = l[i][j] := by simpa using hc
       subst this
       obtain ⟨p, hp, rfl⟩ := List.mem_map.1 ha
       exact hne p hp
      ·intro p hp
       rcases List.mem_append.1 hp with hp | hp
       ·exact g3 p hp
       ·rw [List.mem_singleton.1 hp]; exact hs _ hm _ (List.getElem_mem hjl)
      ·intro p hp
       rcases List.mem_append.1 hp with hp | hp
       ·have := g4 p hp; omega
       ·rw [List.mem_singleton.1 hp]; simp only [List.length_cons, List.length_nil]; omega
      ·rw [contI_new hne, g5, <- incS_snoc]
    ·(refine ⟨(i + 1, M), ?_, by first | omega | (simp only; omega), rfl, ?_⟩; rotate_left; ((try dsimp only [ZL, z0, z1]); repeat (first | exact LeF.nil | refine ZD (k := ?_))); (try dsimp only))
     refine ⟨by omega, g2, g3, fun p hp => by have := g4 p hp; omega, ?_⟩
     rw [List.take_of_length_le (show l[i].length <= j by omega)] at g5
     show contI M = _
     rw [g5, <- incC_snoc (by omega)]
  ·rw [List.take_of_length_le (by omega)] at h5
   rw [<- h5]
   exact ⟨trivial, _, rfl, FinD.map (.head _) fun p hp => .tail _ (List.mem_map_of_mem (f := fun p : Vx × Value × List Int => ZU p.2.1 3 RI p.2.2) hp)⟩
end
section
open Go.RowKit
section
variable {P : Program} {ops : Array Oper} {hp : List HObj} {o : Oper} {fr : List Dat} {d : Dat} {Q : Z1} {rest : List Oper}
variable {dst : Option Tmp} {ty : TypeId} {ps : String} {af : Array Edge} {g : Option (Nat × Bool)} {e : TypeId} {b : Nat} {T1 T2 : TypeId} {v v' : Value} {α : Type} {R : Rel α} {_gR : Good R} {xs : List α}
abbrev hC1 (b : Nat) (T : TypeId) (v : Value) : HObj := ZO b T 1 true (dX (.agg #[v]))
theorem cellC1 {I : Nat -> Prop} {w : World} (h : (hC1 b T2 v).ok I w) : w.heap[b]? = some (.cells #[v] T2) /\ v.oneCell' = true := by
 obtain ⟨cs, u, h1, h2, h0, h3, h4, h5⟩ := h
 simp only [if_true] at h4
 cases (h5 : u = _)
 injection h4 with h4
 have hcs : cs = [v] := List.toArray_inj h4.symm
 subst hcs
 exact ⟨h1, h3 v (by simp)⟩
theorem SY.loadC1 {x : Operand} (T' : TyI P T1 1 false) (hx : OpD fr x (dX (.pointer (some ⟨b, 0, none⟩)))) (hm : hC1 b T2 v ∈ hp) : SY P ops hp { dst := dst, op := .load T1 x, type := ty, pos := ps, after := af, guard := g } fr (dX v) :=
 ZAC fun {P0 B w0 w a} hh ho => by
  have h1 : a.eval x = .pointer (some ⟨b, 0, none⟩) := hx.get (by simp [Op.operands]) ho
  obtain ⟨c1, c2⟩ := cellC1 (hh.ok _ hm)
  have hc : Cells (fun _ => True) w b 0 1 false v := by
   refine ⟨trivial, [v], rfl, by decide, by simp [c2], fun i c hc => ?_, rfl⟩
   have hi : i = 0 := by
    have := (List.getElem?_eq_some_iff.1 hc).1
    simp at this; exact this
   subst hi
   cases hc
   simp [World.cell?, c1]
  refine ⟨v, w, ?_, Ext.refl _, rfl⟩
  unfold execOp
  simp only [h1, Sem.run_bind, ZAY T' hc, Result.andThen_ok, Sem.run_pure]
theorem WL.storeC1 {t : Nat} {x : Operand} (T' : TyI P T1 1 false) (hp0 : OpD fr (.tmp t) (dX (.pointer (some ⟨b, 0, none⟩)))) (hx : OpD fr x (dX v')) (hm : ZU v' e R xs ∈ hp)
  (h : WL P ops Q rest (ZB fr dst (dX undef)) (hC1 b T2 v' :: hp)) : WL P ops Q ({ dst := dst, op := .store T1 (.tmp t) x, type := ty, pos := ps, after := af, guard := none } :: rest) fr (hC1 b T2 v :: hp) := by
 refine WL.of fun P0 B w0 w a hh hf => ?_
 obtain ⟨c1, c2⟩ := cellC1 (hh.ok (hC1 b T2 v) (by simp))
 have h1 : a.eval x = v' := hx.ev hf
 have h2 : a.eval (.tmp t) = .pointer (some ⟨b, 0, none⟩) := hp0.ev hf
 have hone : v'.oneCell' = true := by
  obtain ⟨us, _, ⟨_, hv⟩, _⟩ := hh.ok (ZU v' e R xs) (List.mem_cons_of_mem _ hm)
  rcases hv with ⟨hv, _⟩ | ⟨g, cap, cur, hv, _⟩ <;> (rw [hv]; rfl)
 have hr := ZBd (u := v') (cs := [v]) (cs' := [v']) T'.size c1 rfl rfl (by simp [hone]) (by rw [ZBo hone])
 have hrun : (execOp a.eval { dst := dst, op := .store T1 (.tmp t) x, type := ty, pos := ps, after := af, guard := none }).run P w = .ok .skip (w.setRow b #[v']) := by
  unfold execOp
  simp only [h1, h2, Sem.run_bind, hr, Result.andThen_ok, Sem.run_pure]
 refine wpList_plain rfl fun K hK => ?_
 unfold Oper.wp
 rw [hrun]
 have hgr : w.grownBy (w.setRow b #[v']) (hC1 b T2 v).blk := Z2
 have hok : (hC1 b T2 v').ok (fun k => Imm P0 B (hC1 b T2 v :: hp) k /\ k < w.heap.size) (w.setRow b #[v']) :=
  ⟨[v'], .agg #[v'], setRow_heap w b _ _ _ _ c1, rfl, by decide, by simp [hone], rfl, rfl⟩
 exact hK _ _ (h.on (hh.write hgr (.inl rfl) hok) (Fr.put (hf.mono fun _ _ hd => ZI (o' := hC1 b T2 v') hgr (.inl rfl) hd) (d := dX undef) rfl))
theorem ZBc {c0 : Prop} (hm : ZU v e R xs ∈ hp) (hc : (∃ a c, v = .slice a xs.length c) -> c0) (h : c0 -> WL P ops Q rest fr hp) : WL P ops Q rest fr hp := WL.of fun _ _ _ _ _ hh hf => by
 refine (h (hc ?_)).on hh hf
 obtain ⟨us, _, ⟨_, hv⟩, _⟩ := hh.ok (ZU v e R xs) hm
 rcases hv with ⟨hv, h0⟩ | ⟨g, cap, cur, hv, _⟩
 ·exact ⟨_, _, by rw [hv, h0]⟩
 ·exact ⟨_, _, hv⟩
theorem set_slot {I : Nat -> Prop} {w : World} {a : Act} (hf : Fr I w a fr) {s : Tmp} (hs : fr[s]? = some (dX v)) (hd : d.rd I w v) : Fr I w a (fr.set s d) := by
 refine ⟨hf.defers, by rw [hf.size, List.length_set], fun t' d' hd' => ?_⟩
 by_cases htt : s = t'
 ·subst htt
  rw [List.getElem?_set] at hd'
  simp only [if_true] at hd'
  split at hd'
  ·cases hd'
   have hv : a.tmps.getD s undef = v := hf.rd s _ hs
   rw [hv]; exact hd
  ·cases hd'
 ·rw [List.getElem?_set_ne htt] at hd'
  exact hf.rd t' d' hd'
theorem WL.keep2 {s t : Tmp} (hs : fr[s]? = some (dX v)) (ht : (fr.set s (dS (Arr R) xs))[t]? = some (dX v)) (h : WL P ops Q rest ((fr.set s (dS (Arr R) xs)).set t (dS (Arr R) xs)) hp) : WL P ops Q rest fr (ZU v e R xs :: hp) := WL.of fun _ _ _ _ _ hh hf =>
 h.on hh.drop (set_slot (ZBl hf hs (d := dS (Arr R) xs) (ZBW hh)) ht (ZBW hh))
end
end
section
open Go.RowKit

theorem cloneV_p (xs : List Vx) (hl : xs.length <= 1000) : Fn Tryz.prog 82 [dS ZF xs] (dS ZF xs) := by
 (refine ZE Tryz.func82 rfl rfl ?_; simp only [Tryz.ntmps82, List.length_cons, List.length_nil, Nat.reduceAdd, Nat.reduceSub, List.replicate_succ, List.replicate_zero, List.cons_append, List.nil_append])
 ((repeat' (first |  (refine WL.openE 4 rfl fun b hb => ?_; dsimp only [z0, z1]) | (apply WL.opN; exact yF; dsimp only [ZB, z0, z1]) | refine WL.nil ?_ | refine ZA fun Kx hK => ?_ | (refine hK _ _ ?_; clear hK) | refine WC.region ?_ |  (apply WL.build0K elV RV (by decide); (intro _; dsimp only [ZB, z0, z1]); all_goals (try infer_instance)) | ((first | apply WL.appK | apply WL.app1); (exact eD); exact OpD.t rfl; (exact oD); decide; (exact lD); (intro _; dsimp only [ZB, z0, z1]); all_goals (try infer_instance)) | (apply WL.opN; (focus ((first | (apply SY.eqNil; exact OpD.t rfl; (exact fun _ _ _ h => nil_K h); exact len_K; exact eqNilV) | fail); all_goals infer_instance)); dsimp only [ZB, z0, z1]) | (apply WC.cond; (exact oD); all_goals (intro h; try exact xD)) | refine WC.skip ?_ | refine WC.ret ?_ | refine ThenD.r ?_)); all_goals (first | ((repeat clear hK); (repeat clear Kx))))
 ·rw [hb h]; (refine ⟨trivial, _, rfl, ?_⟩; exact fD)
 ·rw [List.nil_append]; (refine ⟨trivial, _, rfl, ?_⟩; exact fD)
theorem ok_vx {s : List Vx} (h : Zn s = 0) : ∀ v ∈ s, okV v := fun v hv => by
 have := rngV_iff.1 ((ZM.1 h).2.2.1 v hv)
 unfold okV is64
 omega
theorem contI_nodup {l : Cx} : ∀ n, n <= l.length -> ((incC (l.take n)).map (·.1)).Nodup /\ ∀ v, v ∈ (incC (l.take n)).map (·.1) -> ∃ s ∈ l, v ∈ s := by
 have put : ∀ (m : List (Vx × List Int)) (v : Vx) (i : Int), (m.map (·.1)).Nodup -> ((addI m v i).map (·.1)).Nodup /\ ∀ u, u ∈ (addI m v i).map (·.1) -> u = v \/ u ∈ m.map (·.1) := by
  intro m v i hm
  unfold addI ZBP
  split
  ·rename_i h
   have e : (m.map fun p => if p.1 = v then (v, (lookM m v).getD [] ++ [i]) else p).map (·.1) = m.map (·.1) := by
    rw [List.map_map]
    refine List.map_congr_left fun p _ => ?_
    show (if p.1 = v then (v, (lookM m v).getD [] ++ [i]) else p).1 = p.1
    split
    ·rename_i h; exact h.symm
    ·rfl
   rw [e]
   exact ⟨hm, fun u hu => .inr hu⟩
  ·rename_i h
   rw [List.map_append]
   refine ⟨?_, fun u hu => ?_⟩
   ·rw [List.nodup_append]
    refine ⟨hm, by simp, fun a ha b hb => ?_⟩
    have : b = v := by simpa using hb
    subst this
    intro hab
    subst hab
    obtain ⟨p, hp, hpv⟩ := List.mem_map.1 ha
    apply h
    unfold lookM
    rw [Option.isSome_map]
    rw [List.find?_isSome]
    exact ⟨p, hp, by simpa using hpv⟩
   ·rcases List.mem_append.1 hu with hu | hu
    ·exact .inr hu
    ·exact .inl (by simpa using hu)
 have all : ∀ (s : List Vx) (m : List (Vx × List Int)) (i : Int), (m.map (·.1)).Nodup -> ((incS m s i).map (·.1)).Nodup /\ ∀ u, u ∈ (incS m s i).map (·.1) -> u ∈ s \/ u ∈ m.map (·.1) := by
  intro s
  induction s with
  | nil => intro m i hm; exact ⟨hm, fun u hu => .inr hu⟩
  | cons v s ih =>
   intro m i hm
   obtain ⟨h1, h2⟩ := put m v i hm
   obtain ⟨h3, h4⟩ := ih (addI m v i) i h1
   refine ⟨h3, fun u hu => ?_⟩
   rcases h4 u hu with h | h
   ·exact .inl (by simp [h])
   ·rcases h2 u h with h | h
    ·exact .inl (by simp [h])
    ·exact .inr h
 intro n
 induction n with
 | zero => intro _; exact ⟨by simp [incC], fun v hv => by simp [incC] at hv⟩
 | succ n ih =>
  intro hn
  obtain ⟨h1, h2⟩ := ih (by omega)
  rw [incC_snoc (by omega)]
  obtain ⟨h3, h4⟩ := all l[n] (incC (l.take n)) (n : Int) h1
  refine ⟨h3, fun v hv => ?_⟩
  rcases h4 v hv with h | h
  ·exact ⟨l[n], List.getElem_mem _, h⟩
  ·exact h2 v h
theorem incC_nodup (l : Cx) : ((incC l).map (·.1)).Nodup := by
 have := (contI_nodup (l := l) l.length (Nat.le_refl _)).1
 rwa [List.take_length] at this
theorem incC_ok {l : Cx} (h : ∀ s ∈ l, Zn s = 0) : ∀ p ∈ incC l, okV p.1 := fun p hp => by
 have := (contI_nodup (l := l) l.length (Nat.le_refl _)).2 p.1
 rw [List.take_length] at this
 obtain ⟨s, hs, hv⟩ := this (List.mem_map_of_mem hp)
 exact ok_vx (h s hs) _ hv
theorem isKV {x : Vx} : IsV (dS RV x) (kvV x) := ⟨fun _ _ _ h => h⟩
theorem pos_chk {s : List Vx} (h : Zn s = 0) : 0 < s.length := by have := ZM.1 h; omega
theorem len_chk {s : List Vx} (h : Zn s = 0) : s.length <= 8 := by have := ZM.1 h; omega
set_option maxHeartbeats 4000000 in
theorem complexOf_p (l : Cx) (hg : ∀ s ∈ l, Zn s = 0) (hl : l.length <= 1000000) : Fn Tryz.prog 99 [dS Zq l] (dS Cpx (maxC l)) := by
 (refine Fn.introC1 tyC Tryz.func99 rfl rfl ?_; simp only [Tryz.ntmps99, List.length_cons, List.length_nil, Nat.reduceAdd, Nat.reduceSub, List.replicate_succ, List.replicate_zero, List.cons_append, List.nil_append])
 (repeat' (first | ((first | apply WL.opN | apply WD.opN); exact yF; dsimp only [ZB, z0, z1]) | refine WL.nil ?_ | refine ZA fun Kx hK => ?_ | (refine hK _ _ ?_; clear hK) | refine WC.region ?_ |  (refine WL.alloc tzC (Zi rfl) fun b2 => ?_; dsimp only [ZB, z0, z1]) |  (refine WL.callC (hp1 := []) (caps := []) (clone_s l hl) Tryz.call129 OpD.f (by (exact aD)) ?_; rintro d' hp2 ⟨v, rfl, rfl⟩; dsimp only [ZB, z0, z1, List.cons_append, List.nil_append]) |  (apply WL.sortS; exact OpD.t rfl; omega; intro ys hperm hsort; dsimp only [ZB, z0, z1])))
 refine WL.callC (hp1 := [_]) (caps := []) (compact_s ys v hsort (by rw [hperm.length_eq]; omega)) Tryz.call130 OpD.f (ArgsD.cons (OpD.t rfl) (ArgsD.cons ⟨le_fun Tryz.call59 fun x : List Vx × List Vx => eqV_p x.1 x.2⟩ ArgsD.nil)) ?_
 rintro d' hp2 ⟨v2, zs, hzs, rfl, rfl⟩
 dsimp only [ZB, z0, z1, List.cons_append, List.nil_append]
 (repeat' (first | ((first | apply WL.opN | apply WD.opN); exact yF; dsimp only [ZB, z0, z1]) | refine WL.nil ?_ | refine ZA fun Kx hK => ?_ | (refine hK _ _ ?_; clear hK) | refine WC.region ?_))
 refine WL.keep2 (s := 0) (t := 13) rfl rfl ?_
 dsimp only [z0, z1]
 have hzg : ∀ s ∈ zs, Zn s = 0 := fun s hs => hg s (hperm.mem_iff.1 ((hzs.2 s).1 hs))
 have hzl : zs.length <= 1000000 := by
  have h1 := hperm.length_eq
  have h2 : zs.length <= ys.length := List.Nodup.length_le_of_subset hzs.1.nodup fun x hx => (hzs.2 x).1 hx
  omega
 (repeat' (first | ((first | apply WL.opN | apply WD.opN); exact yF; dsimp only [ZB, z0, z1]) | refine WL.nil ?_ | refine ZA fun Kx hK => ?_ | (refine hK _ _ ?_; clear hK) | refine WC.region ?_ |  (refine WL.alloc tzC (Zi rfl) fun b4 => ?_; dsimp only [ZB, z0, z1]) | ((first | apply WL.opN | apply WD.opN); (focus ((first | (apply SY.call (incidence_p zs hzl (fun s hs => ok_vx (hzg s hs)) (fun s hs => Nat.le_trans (len_chk (hzg s hs)) (by decide))) Tryz.call89; (exact aD)) | exact ZBV | fail); all_goals infer_instance)); dsimp only [ZB, z0, z1]) | refine WC.block ?_))
 have hgood : zs.filter (fun s => !Z8 zs s) = maxC l := maxC_eq (fun s hs => pos_chk (hg s hs)) hzs.1 fun u => (hzs.2 u).trans hperm.mem_iff
 refine WC.nilRow 28 ZF ?_
 (refine WC.loopU (X := Nat × Value × Cx) (fun x => [(17, dI (x.1 : Int)), (6, dA), (18, dA), (19, dA), (20, dA), (21, dA), (22, dA), (23, dA), (24, dA), (25, dA), (26, dA), (27, dA), (28, dA), (29, dA), (30, dA), (31, dA), (32, dA), (33, dA), (34, dA), (35, dA), (36, dA), (37, dA)]) (fun x => (ZU x.2.1 28 ZF x.2.2 :: hC1 b4 24 x.2.1 :: ZO b2 24 1 true (dX (.agg #[.slice none 0 0])) :: [])) (fun x => zs.length - x.1) (fun x => x.1 <= zs.length /\ x.2.2 = (zs.take x.1).filter (fun s => !Z8 zs s)) (0, .slice none 0 0, []) ?start ?frame0 ?objs0 ?round)
 case start => exact ⟨Nat.zero_le _, by simp⟩
 case frame0 => ((try dsimp only [ZL, z0, z1]); repeat (first | exact LeF.nil | refine ZD (k := ?_)))
 case objs0 => rfl
 case round =>
  rintro ⟨k, v, o⟩ ⟨h1, h2⟩
  simp only at h1 h2
  have hol : o.length <= 1000000 := by
   have h3 := List.length_filter_le (fun s => !Z8 zs s) (zs.take k)
   rw [List.length_take, <- h2] at h3
   omega
  dsimp only [ZL, z0, z1]
  ((repeat' (first |  (apply WC.drawTail 5; kernel_rfl; kernel_rfl; simp only [List.take_succ_cons, List.take_zero, List.drop_succ_cons, List.drop_zero]) | ((first | apply WL.opN | apply WD.opN); exact yF; dsimp only [ZB, z0, z1]) | refine WL.nil ?_ | refine WD.nil ?_ | refine ZA fun Kx hK => ?_ | (refine hK _ _ ?_; clear hK) | (refine Kont.skip ?_; clear hK) | refine WC.region ?_ |  (refine WL.perm (List.Perm.swap _ _ _) ?_; refine WL.storeC1 tySS (OpD.t rfl) (OpD.t rfl) (.head _) ?_; refine WL.perm (List.Perm.swap _ _ _) ?_; dsimp only [ZB, z0, z1]) | ((first | apply WL.appK | apply WL.app1); (exact eD); exact OpD.t rfl; (exact oD); decide; (exact lD); (intro _; dsimp only [ZB, z0, z1]); all_goals (try infer_instance)) | ((first | apply WL.opN | apply WD.opN); (focus ((first | (apply SY.ixKJ elV (OpD.t rfl) OpD.i 0 rfl; exact pos_chk (hzg _ (List.getElem_mem _))) | (refine SY.lookR (a0 := ([] : List Int)) mapT_inc keyT_V (OpD.t rfl) (OpD.t rfl) isKV (ok_vx (hzg _ (List.getElem_mem _)) _ (List.getElem_mem _)) (incC_ok hzg) (incC_nodup zs) (fun _ _ => ZCU)) | (apply SY.call (coveredP_p _ _ _ atM_bnd) Tryz.call90; (exact aD)) | (apply SY.fldX cpxT; exact OpD.t rfl) | (apply SY.loadC1 tySS; exact OpD.t rfl; exact .tail _ (.head _)) | (apply SY.call (cloneV_p _ (Nat.le_trans (len_chk (hzg _ (List.getElem_mem _))) (by decide))) Tryz.call82; (exact aD)) | exact ZBu | exact yNot | exact yAdd | exact ZT | exact ZCV | fail); all_goals infer_instance)); dsimp only [ZB, z0, z1]) | (apply ZC; (exact oD); all_goals (intro h; try exact xD)) | (apply Zk; (exact oD); all_goals (intro h; try exact xD)) | refine WC.skip ?_ | refine WC.exit ?_ | refine WC.block ?_ | refine ThenD.n ?_)); all_goals (first | refine WL.id ?_ | ((repeat clear hK); (repeat clear Kx))))
  ·rename_i h0 v'
   rw [anyCov hzg (hzg _ (List.getElem_mem (show k < zs.length by omega))) (List.getElem_mem _)] at h
   (refine ⟨(k + 1, v', o ++ [zs[k]]), ?_, by first | omega | (simp only; omega), rfl, ?_⟩; rotate_left; ((try dsimp only [ZL, z0, z1]); repeat (first | exact LeF.nil | refine ZD (k := ?_))); (try dsimp only))
   refine ⟨by omega, ?_⟩
   show o ++ _ = _
   rw [filt_snoc (by omega), if_pos (by rw [h]; rfl), h2]
  ·rw [anyCov hzg (hzg _ (List.getElem_mem (show k < zs.length by omega))) (List.getElem_mem _)] at h
   (refine ⟨(k + 1, v, o), ?_, by first | omega | (simp only; omega), rfl, ?_⟩; rotate_left; ((try dsimp only [ZL, z0, z1]); repeat (first | exact LeF.nil | refine ZD (k := ?_))); (try dsimp only))
   refine ⟨by omega, ?_⟩
   show o = _
   rw [filt_snoc (by omega), if_neg (by rw [h]; decide), h2, List.append_nil]
  ·rw [List.take_of_length_le (by omega), hgood] at h2
   subst h2
   refine ZBc (.head _) _root_.id fun hv => ?_
   obtain ⟨ad, c, rfl⟩ := hv
   ((repeat' (first | refine WL.nil ?_ | (refine hK _ _ ?_; clear hK) |  (apply WL.storeF3 tyC; rfl; exact OpD.t rfl; exact Zi rfl; dsimp only [ZB, z0, z1]) | ((first | apply WL.opN | apply WD.opN); (focus ((first | (apply ZAE tyC; exact OpD.t rfl; exact .tail _ (.head _)) | fail); all_goals infer_instance)); dsimp only [ZB, z0, z1]) | refine WC.ret ?_)); all_goals (first | ((repeat clear hK); (repeat clear Kx))))
   exact ⟨trivial, _, rfl, FinD.rowC (.head _)⟩
end
section
open Go.RowKit

theorem any_take {l : Cx} {p : List Vx -> Bool} {k : Nat} (h : k < l.length) : (l.take (k + 1)).any p = ((l.take k).any p || p l[k]) := by rw [ZQ h, List.any_append]; simp
set_option maxHeartbeats 4000000 in
theorem check_p (l : Cx) : Fn Tryz.prog 42 [dS Cpx l] (dI (ZAn l)) := by
 (refine ZE Tryz.func42 rfl rfl ?_; simp only [Tryz.ntmps42, List.length_cons, List.length_nil, Nat.reduceAdd, Nat.reduceSub, List.replicate_succ, List.replicate_zero, List.cons_append, List.nil_append])
 ((repeat' (first | ((first | apply WL.opN | apply WD.opN); exact yF; dsimp only [ZB, z0, z1]) | refine WL.nil ?_ | refine ZA fun Kx hK => ?_ | (refine hK _ _ ?_; clear hK) | refine WC.region ?_ | ((first | apply ZJ | apply WD.op); (focus (first | exact wN | (apply ZG; (exact wY); ((first | exact yGtr | exact ZBV | exact Zx | exact yBox | fail); all_goals infer_instance)))); dsimp only [ZB, z0, z1]) | (apply ZC; (exact oD); all_goals (intro h; try exact xD)) | refine WC.skip ?_ | refine WC.ret ?_ | refine WC.block ?_ | refine ThenD.r ?_)); all_goals (first | refine WC.id ?_ | ((repeat clear hK); (repeat clear Kx))))
 ·(refine ⟨trivial, _, rfl, ?_⟩; refine FinD.i ?_)
  unfold ZAn; rw [if_pos (by omega)]
 ·have hs : ZAn l = if chkO none l ≠ 0 then chkO none l else if twiceC l = true then 7 else 0 := by unfold ZAn; rw [if_neg (by omega)]
  (refine WC.loopU (X := Nat) (fun k => [(16, dI (k : Int)), (2, dA), (3, dA), (4, dA), (5, dA), (17, dA), (18, dA), (19, dA), (20, dA), (21, dA), (22, dA), (23, dA), (24, dA), (25, dA), (26, dA), (27, dA), (28, dA), (29, dA), (30, dA), (31, dA), (32, dA), (33, dA), (34, dA), (35, dA), (36, dA), (37, dA), (38, dA), (39, dA)]) (fun k => []) (fun k => l.length - k) (fun k => k <= l.length /\ chkO none l = chkO (l.take k).getLast? (l.drop k)) 0 ?start ?frame0 ?objs0 ?round)
  case start => exact ⟨Nat.zero_le _, rfl⟩
  case frame0 => ((try dsimp only [ZL, z0, z1]); repeat (first | exact LeF.nil | refine ZD (k := ?_)))
  case objs0 => rfl
  case round =>
   rintro k ⟨h3, h4⟩
   dsimp only [ZL, z0, z1]
   ((repeat' (first | ((first | apply WL.opN | apply WD.opN); exact yF; dsimp only [ZB, z0, z1]) | refine WL.nil ?_ | refine ZA fun Kx hK => ?_ | (refine hK _ _ ?_; clear hK) | (refine Kont.skip ?_; clear hK) | refine WC.region ?_ | ((first | apply ZJ | apply WD.op); (focus (first | exact wN | (apply ZG; (exact wY); ((first | (apply SY.call (cmpL_p _ _) Tryz.call81; (exact aD)) | (apply SY.call (chk_p _) Tryz.call88; (exact aD)) | (apply SY.ixJ elSi (OpD.t rfl) (OpD.t rfl) (k - 1); omega; omega) | exact yMove | exact ZBu | exact yGtr | exact yGeq | exact yNeq | exact yAdd | exact ySub | exact yLoad | exact ZT | exact Zx | exact yPick | fail); all_goals infer_instance)))); dsimp only [ZB, z0, z1]) | ((first | refine Zd rfl rfl rfl (fun h => ?_) (fun h => ?_) | refine Zc rfl rfl rfl (fun h => ?_) (fun h => ?_) | refine ZY rfl rfl rfl (fun h => ?_) (fun h => ?_) | refine ZAf rfl rfl rfl (fun h => ?_) (fun h => ?_) | refine ZAh rfl rfl rfl (fun h => ?_) (fun h => ?_) | refine ZAD rfl rfl rfl (fun h => ?_) (fun h => ?_)) <;> (first | (exfalso; first | omega | contradiction) | (dsimp only [z0, z1]))) | (apply Zr; (exact oD); (with_reducible rfl)) | (apply ZC; (exact oD); all_goals (intro h; try exact xD)) | (apply ZH; (exact oD); all_goals (intro h; try exact xD)) | refine WC.skip ?_ | refine WC.ret ?_ | refine WC.exit ?_ | refine WC.block ?_ | refine ThenD.n ?_ | refine ThenD.r ?_ | refine InBlockD.r ?_)); all_goals (first | refine WL.id ?_ | ((repeat clear hK); (repeat clear Kx))))
   all_goals try (rw [chkO_drop l k (by omega)] at h4)
   ·(refine ⟨trivial, _, rfl, ?_⟩; refine FinD.i ?_)
    rw [hs, h4, if_pos h, if_pos h]
   ·(refine ⟨trivial, _, rfl, ?_⟩; refine FinD.i ?_)
    have h5 : ¬ Zn l[k] ≠ 0 := by omega
    rw [if_neg h5, lastC_take _ _ (by omega) (by omega), if_pos (by simpa using h)] at h4
    rw [hs, h4]; rfl
   ·(refine ⟨k + 1, ?_, by first | omega | (simp only; omega), rfl, ?_⟩; rotate_left; ((try dsimp only [ZL, z0, z1]); repeat (first | exact LeF.nil | refine ZD (k := ?_))); (try dsimp only))
    refine ⟨by omega, ?_⟩
    have h5 : ¬ Zn l[k] ≠ 0 := by omega
    rw [h4, if_neg h5, lastC_take _ _ (by omega) (by omega), if_neg (by simpa using h)]
   ·(refine ⟨k + 1, ?_, by first | omega | (simp only; omega), rfl, ?_⟩; rotate_left; ((try dsimp only [ZL, z0, z1]); repeat (first | exact LeF.nil | refine ZD (k := ?_))); (try dsimp only))
    refine ⟨by omega, ?_⟩
    have h5 : ¬ Zn l[k] ≠ 0 := by omega
    have h0 : (l.take k).getLast? = none := by
     have : k = 0 := by omega
     rw [this]; rfl
    rw [h4, if_neg h5, h0]
    rfl
   ·rw [List.drop_of_length_le (by omega)] at h4
    have h4' : chkO none l = 0 := h4
    have hs' : ZAn l = if twiceC l = true then 7 else 0 := by rw [hs, if_neg (by omega)]
    clear hs h4
    obtain ⟨ha, _, hg⟩ := chkO_asc l none h4'
    rw [twice_any ha hg] at hs'
    have hl1 : l.length <= 1000000 := by omega
    (repeat' (first | ((first | apply WL.opN | apply WD.opN); exact yF; dsimp only [ZB, z0, z1]) | refine WL.nil ?_ | refine ZA fun Kx hK => ?_ | (refine hK _ _ ?_; clear hK) | refine WC.region ?_ | ((first | apply ZJ | apply WD.op); (focus (first | exact wN | (apply ZG; (exact wY); ((first | (apply SY.call (incidence_p l hl1 (fun s hs => ok_vx (hg s hs)) (fun s hs => Nat.le_trans (len_chk (hg s hs)) (by decide))) Tryz.call89; (exact aD)) | exact ZBV | exact Zx | fail); all_goals infer_instance)))); dsimp only [ZB, z0, z1]) | refine WC.block ?_))
    (refine WC.loopU (X := Nat) (fun i => [(46, dI (i : Int)), (2, dA), (8, dA), (47, dA), (48, dA), (49, dA), (50, dA), (51, dA), (52, dA), (53, dA), (54, dA), (55, dA), (56, dA), (57, dA), (58, dA), (59, dA)]) (fun i => []) (fun i => l.length - i) (fun i => i <= l.length /\ (l.take i).any (fun s => Z8 l s) = false) 0 ?start ?frame0 ?objs0 ?round)
    case start => exact ⟨Nat.zero_le _, rfl⟩
    case frame0 => ((try dsimp only [ZL, z0, z1]); repeat (first | exact LeF.nil | refine ZD (k := ?_)))
    case objs0 => rfl
    case round =>
     rintro i ⟨h5, h6⟩
     dsimp only [ZL, z0, z1]
     ((repeat' (first | ((first | apply WL.opN | apply WD.opN); exact yF; dsimp only [ZB, z0, z1]) | refine WL.nil ?_ | refine WD.nil ?_ | refine ZA fun Kx hK => ?_ | (refine hK _ _ ?_; clear hK) | (refine Kont.skip ?_; clear hK) | refine WC.region ?_ | (apply WC.draw; kernel_rfl; kernel_rfl) | ((first | apply ZJ | apply WD.op); (focus (first | exact wN | (apply ZG; (exact wY); ((first | (apply SY.ixKJ elV (OpD.t rfl) OpD.i 0 rfl; exact pos_chk (hg _ (List.getElem_mem _))) | (refine SY.lookR (a0 := ([] : List Int)) mapT_inc keyT_V (OpD.t rfl) (OpD.t rfl) isKV (ok_vx (hg _ (List.getElem_mem _)) _ (List.getElem_mem _)) (incC_ok hg) (incC_nodup l) (fun _ _ => ZCU)) | (apply SY.call (coveredP_p _ _ _ atM_bnd) Tryz.call90; (exact aD)) | exact ZBu | exact yAdd | exact ZT | exact Zx | fail); all_goals infer_instance)))); dsimp only [ZB, z0, z1]) | (apply ZC; (exact oD); all_goals (intro h; try exact xD)) | (apply WC.cond; (exact oD); all_goals (intro h; try exact xD)) | refine WC.skip ?_ | refine WC.ret ?_ | refine WC.exit ?_ | refine WC.block ?_ | refine ThenD.n ?_ | refine ThenD.r ?_ | refine InBlockD.r ?_)); all_goals (first | ((repeat clear hK); (repeat clear Kx))))
     ·rw [anyCov hg (hg _ (List.getElem_mem (show i < l.length by omega))) (List.getElem_mem _)] at h
      (refine ⟨trivial, _, rfl, ?_⟩; refine FinD.i ?_)
      rw [hs', if_pos]
      exact List.any_eq_true.2 ⟨l[i], List.getElem_mem _, h⟩
     ·rw [anyCov hg (hg _ (List.getElem_mem (show i < l.length by omega))) (List.getElem_mem _)] at h
      (refine ⟨i + 1, ?_, by first | omega | (simp only; omega), rfl, ?_⟩; rotate_left; ((try dsimp only [ZL, z0, z1]); repeat (first | exact LeF.nil | refine ZD (k := ?_))); (try dsimp only))
      exact ⟨by omega, by rw [any_take (by omega), h6, h]; rfl⟩
     ·rw [List.take_of_length_le (by omega)] at h6
      (refine ⟨trivial, _, rfl, ?_⟩; refine FinD.i ?_)
      rw [hs', if_neg (by rw [h6]; decide)]
end
end Go.Proofs.YtmcllakdbgnfiaaGreatDoor
