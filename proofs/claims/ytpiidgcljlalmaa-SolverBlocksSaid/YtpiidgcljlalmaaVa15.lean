/- Part 15: walks by contracts, and plain laws. -/
import Derived.Test.YtpiidgcljlalmaaVa14
set_option linter.unusedVariables false
set_option linter.unusedSimpArgs false
set_option linter.unusedSectionVars false
namespace Go.Proofs.Ytpiidgcljlalmaa
open Go.RowKit
open S43 (SS up backS)
set_option linter.unusedSimpArgs false
set_option linter.unusedVariables false
set_option maxHeartbeats 2000000
set_option maxRecDepth 100000
def delV (val : Int → Bool) (l : List Int) : Int → Bool := fun x => if x ∈ l then false else val x
def delL (lev : Nat → Nat) (l : List Int) : Nat → Nat := fun v => if v ∈ l.map Int.natAbs then 0 else lev v
def delR (rea : Nat → Option Nat) (l : List Int) : Nat → Option Nat := fun v => if v ∈ l.map Int.natAbs then none else rea v
theorem delV_del {val : Int → Bool} {l : List Int} {x : Int} : ∀ f, pVal (delV val l) f → pVal (delV val (l ++ [x])) (upF f x none) := fun f h y => by
  unfold upF delV
  by_cases e : y = x
  · rw [if_pos e, if_pos (by rw [e]; simp)]; rfl
  · rw [if_neg e, h y]
    unfold delV
    have : (y ∈ l ++ [x]) ↔ y ∈ l := by simp [e]
    by_cases q : y ∈ l
    · rw [if_pos q, if_pos (this.2 q)]
    · rw [if_neg q, if_neg fun k => q (this.1 k)]
theorem delL_del {lev : Nat → Nat} {l : List Int} {x : Int} : ∀ f, pLev (delL lev l) f → pLev (delL lev (l ++ [x])) (upF f ((x.natAbs : Nat) : Int) none) := fun f h v => by
  unfold upF delL
  by_cases e : v = x.natAbs
  · rw [if_pos (by rw [e]), if_pos (by rw [e]; simp)]; rfl
  · rw [if_neg (by omega), h v]
    unfold delL
    have : (v ∈ (l ++ [x]).map Int.natAbs) ↔ v ∈ l.map Int.natAbs := by simp [e]
    by_cases q : v ∈ l.map Int.natAbs
    · rw [if_pos q, if_pos (this.2 q)]
    · rw [if_neg q, if_neg fun k => q (this.1 k)]
theorem delR_del {rea : Nat → Option Nat} {l : List Int} {x : Int} : ∀ f, pRea (delR rea l) f → pRea (delR rea (l ++ [x])) (upF f ((x.natAbs : Nat) : Int) none) := fun f h v => by
  unfold upF delR
  by_cases e : v = x.natAbs
  · rw [if_pos (by rw [e]), if_pos (by rw [e]; simp)]; rfl
  · rw [if_neg (by omega), h v]
    unfold delR
    have : (v ∈ (l ++ [x]).map Int.natAbs) ↔ v ∈ l.map Int.natAbs := by simp [e]
    by_cases q : v ∈ l.map Int.natAbs
    · rw [if_pos q, if_pos (this.2 q)]
    · rw [if_neg q, if_neg fun k => q (this.1 k)]
theorem cut_one {v : Value} {k : Nat} (h : v.oneCell' = true) : (cutV v k).oneCell' = true := by
  unfold cutV
  split
  · rfl
  · exact h
theorem take_snoc {l : List Int} {n i : Nat} (h : n + i < l.length) : (l.drop n).take (i + 1) = (l.drop n).take i ++ [l[n + i]] := by
  rw [List.take_succ_eq_append_getElem (by rw [List.length_drop]; omega), List.getElem_drop]
set_option maxHeartbeats 8000000 in
theorem back_c (X : Lay) (V : Nat) (s : SS) (l : Nat) (hl0 : l ≤ 1000000) (hs : ∀ x ∈ s.trail, x.natAbs ≤ 1000000) (hb : ∀ b ∈ s.begins, b ≤ s.trail.length) (ht : s.trail.length ≤ 1000000) (hbl : s.begins.length ≤ 1000000) :
    CallC Try.prog 74 ([dX (ptrS X), dI (l : Int)] ++ ([] : List Value).map dX) (core X V s) (fun _ hp2 => ∃ v v', hp2 = core { X with vT := v, vB := v' } V (backS s l)) := by
  (refine CallC.intro0 Try.func74 rfl rfl (fun hp => ?_); simp only [Try.ntmps74, List.length_cons, List.length_nil, List.length_append, List.length_map, Nat.reduceAdd, Nat.reduceSub, List.replicate_succ, List.replicate_zero, List.cons_append, List.nil_append, List.map_cons, List.map_nil, List.append_assoc])
  have e1 : (ints s.begins).length = s.begins.length := ints_len _
  by_cases hl : s.begins.length ≤ l
  · have hlt : (l : Int) ≥ ((ints s.begins).length : Int) := by rw [e1]; omega
    have e0 : backS s l = s := if_pos hl
    ((repeat' (first | ((first | apply WL.opN | apply WD.opN); exact yF; dsimp only [setD, z0, z1]) | refine WL.nil ?_ | refine WC.seqK fun Kx hK => ?_ | (refine hK _ _ ?_; clear hK) | refine WC.region ?_ | ((first | apply WL.opN | apply WD.opN); (focus ((first | (exact SY.nilCk (OpD.t rfl)) | (refine SY.fldS strS (OpD.t rfl) (by decide)) | (apply SY.loadS; (first | exact tyI | exact tySi | exact tyF | exact tyFL); exact OpD.t rfl; exact mAt 0 rfl; rfl) | (apply SY.lenR; exact OpD.t rfl; exact mAt 5 rfl; exact elI.unt) | ((first | apply SY.move | apply SY.assign | apply SY.lss | apply SY.geq) <;> (exact oD)) | fail); all_goals infer_instance)); dsimp only [setD, z0, z1]) | (apply WC.condD; (exact oD); all_goals (intro h; try exact xD)) | refine WC.ret ?_ | refine ThenD.r ?_)); all_goals (first | ((repeat clear hK); (repeat clear Kx))))
    all_goals try (exfalso; omega)
    rw [e0]
    exact ⟨trivial, core { X with vT := X.vT, vB := X.vB } V s, rfl, X.vT, X.vB, rfl⟩
  have hlb : l < (ints s.begins).length := by omega
  obtain ⟨n, hn⟩ : ∃ n, s.begins[l]'(by omega) = n := ⟨_, rfl⟩
  have hni : (ints s.begins)[l] = (n : Int) := by rw [ints_get, hn]
  have hnt : n ≤ s.trail.length := by rw [← hn]; exact hb _ (List.getElem_mem _)
  have hg : s.begins.getD l 0 = n := by rw [List.getD_eq_getElem?_getD, List.getElem?_eq_getElem (by omega), Option.getD_some, hn]
  have hmin : (if (((s.trail.take n).length : Nat) : Int) < (s.head : Int) then (((s.trail.take n).length : Nat) : Int) else (s.head : Int)) = ((min s.head n : Nat) : Int) := by
    rw [List.length_take]; split <;> omega
  (repeat' (first | ((first | apply WL.opN | apply WD.opN); exact yF; dsimp only [setD, z0, z1]) | refine WL.nil ?_ | refine WD.nil ?_ | refine WC.seqK fun Kx hK => ?_ | (refine hK _ _ ?_; clear hK) | refine WC.region ?_ | (apply WC.draw; kernel_rfl; kernel_rfl) | ((first | apply WL.opN | apply WD.opN); (focus ((first | (exact SY.nilCk (OpD.t rfl)) | (refine SY.fldS strS (OpD.t rfl) (by decide)) | (apply SY.loadS; (first | exact tyI | exact tySi | exact tyF | exact tyFL); exact OpD.t rfl; exact mAt 0 rfl; rfl) | (apply SY.lenR; exact OpD.t rfl; exact mAt 5 rfl; exact elI.unt) | (exact SY.ixR elI (OpD.t rfl) (mAt 5 rfl) (OpD.t rfl) rfl hlb) | (exact SY.loadR tyI (OpD.t rfl) (mAt 5 rfl) hlb) | (exact SY.fromR elI (OpD.t rfl) (mAt 4 rfl) (OpD.t rfl) hni hnt) | (exact SY.lenFrom Try.underlying25 (OpD.t rfl) (mAt 4 rfl) hnt) | ((first | apply SY.move | apply SY.assign | apply SY.lss | apply SY.geq) <;> (exact oD)) | fail); all_goals infer_instance)); dsimp only [setD, z0, z1]) | (apply WC.condD; (exact oD); all_goals (intro h; try exact xD)) | refine WC.skip ?_ | refine WC.block ?_))
  all_goals try (exfalso; omega)
  (refine WC.loopU (X := Nat) (fun i => [(26, dI (i : Int)), (5, dA), (27, dA), (28, dA), (29, dA), (30, dA), (31, dA), (32, dA), (33, dA), (34, dA), (35, dA), (36, dA), (37, dA), (38, dA), (39, dA), (40, dA), (41, dA), (42, dA), (43, dA), (44, dA), (45, dA), (46, dA), (47, dA)]) (fun i => (oS X V s :: hG X.bv kvI is64 vvB (pVal (delV s.val ((s.trail.drop n).take i))) :: hG X.bl kvI is64 kvI (pLev (delL s.lev ((s.trail.drop n).take i))) :: hG X.br kvI is64 kvI (pRea (delR s.rea ((s.trail.drop n).take i))) :: oT X s :: oB X s :: hp)) (fun i => s.trail.length - n - i) (fun i => i ≤ s.trail.length - n) 0 ?start ?frame0 ?objs0 ?round)
  case start => exact Nat.zero_le _
  case frame0 => ((try dsimp only [upds, z0, z1]); repeat (first | exact LeF.nil | refine LeF.co (k := ?_)))
  case objs0 => rfl
  case round =>
    rintro i hi
    dsimp only [upds, z0, z1]
    by_cases hin : n + i < s.trail.length
    · have hy := hs _ (List.getElem_mem hin)
      have hy2 := variable_p s.trail[n + i] hy
      have hy3 : is64 (((s.trail[n + i]).natAbs : Nat) : Int) := by unfold is64; omega
      have hdn : (i : Int) < ((s.trail.length - n : Nat) : Int) := by omega
      have et := take_snoc hin
      ((repeat' (first |  (apply WC.drawTail (id := 5) 6; kernel_rfl; kernel_rfl; simp only [List.take_succ_cons, List.take_zero, List.drop_succ_cons, List.drop_zero]) |  (apply WC.drawTail (id := 6) 6; kernel_rfl; kernel_rfl; simp only [List.take_succ_cons, List.take_zero, List.drop_succ_cons, List.drop_zero]) | ((first | apply WL.opN | apply WD.opN); exact yF; dsimp only [setD, z0, z1]) | refine WL.nil ?_ | refine WD.nil ?_ | refine WC.seqK fun Kx hK => ?_ | (refine hK _ _ ?_; clear hK) | refine WC.region ?_ |  (refine WL.ofSW (SW.at 1 rfl fun q => SW.delG (pVal (delV s.val ((s.trail.drop n).take i ++ [s.trail[n + i]]))) mapT_b keyT_I (OpD.t rfl) (OpD.t rfl) isI (i64 hy) delV_del) fun _ => ?_; dsimp only [setD, z0, z1]) |  (refine WL.ofSW (SW.at 2 rfl fun q => SW.delG (pLev (delL s.lev ((s.trail.drop n).take i ++ [s.trail[n + i]]))) mapT_i keyT_I (OpD.t rfl) (OpD.t rfl) isI hy3 delL_del) fun _ => ?_; dsimp only [setD, z0, z1]) |  (refine WL.ofSW (SW.at 3 rfl fun q => SW.delG (pRea (delR s.rea ((s.trail.drop n).take i ++ [s.trail[n + i]]))) mapT_i keyT_I (OpD.t rfl) (OpD.t rfl) isI hy3 delR_del) fun _ => ?_; dsimp only [setD, z0, z1]) | ((first | apply WL.opN | apply WD.opN); (focus ((first | (apply SY.call (hy2) Try.call98; (exact aD)) | (exact SY.nilCk (OpD.t rfl)) | (refine SY.fldS strS (OpD.t rfl) (by decide)) | (apply SY.loadS; (first | exact tyI | exact tySi | exact tyF | exact tyFL); exact OpD.t rfl; exact mAt 0 rfl; rfl) | (exact SY.ixFrom elI (OpD.t rfl) (mAt 4 rfl) (OpD.t rfl) rfl hin) | (exact SY.loadR tyI (OpD.t rfl) (mAt 4 rfl) hin) | ((first | apply SY.move | apply SY.assign | apply SY.lss | apply SY.geq) <;> (exact oD)) | ((first | apply SY.add) <;> first | exact oD | omega) | fail); all_goals infer_instance)); dsimp only [setD, z0, z1]) | (apply WC.condD; (exact oD); all_goals (intro h; try exact xD)) | refine WC.skip ?_ | refine WC.block ?_ | refine ThenD.n ?_)); all_goals (first | ((repeat clear hK); (repeat clear Kx))))
      all_goals try (exfalso; first | contradiction | omega)
      rw [← et]
      (refine ⟨i + 1, ?_, by first | omega | (simp only; omega), rfl, ?_⟩; rotate_left; ((try dsimp only [upds, z0, z1]); repeat (first | exact LeF.nil | refine LeF.co (k := ?_))); (try dsimp only))
      omega
    · have hdn : ¬ (i : Int) < ((s.trail.length - n : Nat) : Int) := by omega
      obtain rfl : i = s.trail.length - n := by omega
      have ea : (s.trail.drop n).take (s.trail.length - n) = s.trail.drop n := List.take_of_length_le (by rw [List.length_drop]; exact Nat.le_refl _)
      rw [ea]
      refine WC.rowIs (mAt 4 rfl) fun hT1 => WC.rowIs (mAt 5 rfl) fun hB1 => ?_
      have hT2 := cut_one (k := n) hT1
      have hB2 := cut_one (k := l) hB1
      ((repeat' (first |  (apply WC.drawTail (id := 8) 13; kernel_rfl; kernel_rfl; simp only [List.take_succ_cons, List.take_zero, List.drop_succ_cons, List.drop_zero]) |  (apply WC.drawTail (id := 10) 11; kernel_rfl; kernel_rfl; simp only [List.take_succ_cons, List.take_zero, List.drop_succ_cons, List.drop_zero]) | ((first | apply WL.opN | apply WD.opN); exact yF; dsimp only [setD, z0, z1]) | refine WL.nil ?_ | refine WD.nil ?_ | refine WC.seqK fun Kx hK => ?_ | (refine hK _ _ ?_; clear hK) | (refine Kont.skip ?_; clear hK) | refine WC.region ?_ |  (refine WL.ofSW (SW.at 0 rfl fun q => SW.storeS tySi (OpD.t rfl) (OpD.t rfl) (shape_X hT2) (by simp)) fun _ => ?_; dsimp only [setD, z0, z1]; refine WL.swap 4 rfl (fun q h => WL.cutR hnt h) ?_; dsimp only [z0, z1]) |  (refine WL.ofSW (SW.at 0 rfl fun q => SW.storeS tySi (OpD.t rfl) (OpD.t rfl) (shape_X hB2) (by simp)) fun _ => ?_; dsimp only [setD, z0, z1]; refine WL.swap 5 rfl (fun q h => WL.cutR (Nat.le_of_lt hlb) h) ?_; dsimp only [z0, z1]) |  (refine WL.ofSW (SW.at 0 rfl fun q => SW.storeS tyI (OpD.t rfl) (OpD.t rfl) shape_I (by simp)) fun _ => ?_; dsimp only [setD, z0, z1]) | ((first | apply WL.opN | apply WD.opN); (focus ((first | (exact SY.nilCk (OpD.t rfl)) | (refine SY.fldS strS (OpD.t rfl) (by decide)) | (apply SY.loadS; (first | exact tyI | exact tySi | exact tyF | exact tyFL); exact OpD.t rfl; exact mAt 0 rfl; rfl) | (exact SY.ixR elI (OpD.t rfl) (mAt 5 rfl) (OpD.t rfl) rfl hlb) | (exact SY.loadR tyI (OpD.t rfl) (mAt 5 rfl) hlb) | (exact SY.uptoR elI (OpD.t rfl) (mAt 4 rfl) (OpD.t rfl) hni hnt) | (exact SY.uptoR elI (OpD.t rfl) (mAt 5 rfl) (OpD.t rfl) rfl (Nat.le_of_lt hlb)) | (apply SY.lenR; exact OpD.t rfl; exact mAt 4 rfl; exact elI.unt) | (exact hmin ▸ SY.minI (OpD.t rfl) (OpD.t rfl)) | ((first | apply SY.move | apply SY.assign | apply SY.lss | apply SY.geq) <;> (exact oD)) | fail); all_goals infer_instance)); dsimp only [setD, z0, z1]) | (apply WC.condD; (exact oD); all_goals (intro h; try exact xD)) | refine WC.exit ?_)); all_goals (first | ((repeat clear hK); (repeat clear Kx))))
      all_goals try (exfalso; first | contradiction | omega)
      have eb : backS s l = { s with val := delV s.val (s.trail.drop n), lev := delL s.lev (s.trail.drop n), rea := delR s.rea (s.trail.drop n), trail := s.trail.take n, begins := s.begins.take l, head := min s.head n } := by
        unfold backS
        rw [if_neg hl, hg]
        rfl
      rw [eb, ints_take]
      exact ⟨trivial, core { X with vT := cutV X.vT n, vB := cutV X.vB l } V { s with val := delV s.val (s.trail.drop n), lev := delL s.lev (s.trail.drop n), rea := delR s.rea (s.trail.drop n), trail := s.trail.take n, begins := s.begins.take l, head := min s.head n }, rfl, _, _, rfl⟩
end Go.Proofs.Ytpiidgcljlalmaa
namespace Go.Proofs.Ytpiidgcljlalmaa
open Go.RowKit
open S43 (SS up addS assignS)
section
variable {P : Program} {ops : Array Oper} {hp : List HObj} {o : Oper} {fr : List Dat} {d : Dat} {Q : Post} {rest : List Oper} {c : Code}
variable {dst : Option Tmp} {ty : TypeId} {ps : String} {af : Array Edge} {g : Option (Nat × Bool)} {t e e' : TypeId} {bytes : Nat} {z : Value} {ag : Bool} {α : Type} {R : Rel α} {_gR : Good R} {xs : List α} {v : Value} {n : Nat}
theorem SY.lenRE {x : Operand} (h : xs.length = n) (hx : OpD fr x (dX v)) (hm : hRow v e' R xs ∈ hp) (hu : UndT P t e) : SY P ops hp { dst := dst, op := .call { callee := .builtin .len, args := #[x], argTypes := #[t] }, type := ty, pos := ps, after := af, guard := g } fr (dI (n : Int)) := h ▸ SY.lenR hx hm hu
theorem SY.lenAE {x : Operand} (h : xs.length = n) (hx : OpD fr x (dS (Arr R) xs)) (hu : UndT P t e) : SY P ops hp { dst := dst, op := .call { callee := .builtin .len, args := #[x], argTypes := #[t] }, type := ty, pos := ps, after := af, guard := g } fr (dI (n : Int)) := h ▸ SY.len hx len_A hu
theorem SY.upto1 {x y : Operand} {l : Nat} {j : Int} (E : ElT P t e 1 z bytes ag) (hx : OpD fr x (dS (Arr R) xs)) (hy : OpD fr y (dI j)) (hj : j = (l : Int)) (hl : l ≤ xs.length) : SY P ops hp { dst := dst, op := .slice t x none (some y) none, type := ty, pos := ps, after := af, guard := g } fr (dS (Arr R) (xs.take l)) := by
  have := SY.slice1 (P := P) (ops := ops) (hp := hp) (dst := dst) (ty := ty) (ps := ps) (af := af) (g := g) (_gR := _gR) E hx BndD.no (BndD.yesJ hy hj) (Nat.zero_le _) hl
  rwa [List.drop_zero, Nat.sub_zero] at this
theorem SW.gAt {ι : Type} [DecidableEq ι] {L : List ι} {u : ι → Value} {e : TypeId} {c c' : ι → List Int} {i : ι} {A B : List HObj} {D : Value → Dat} (hn : L.Nodup) (hi : i ∈ L) (hc : ∀ j, j ≠ i → c' j = c j) (k : ∀ q : List HObj, SW P ops (hRow (u i) e RI (c i) :: q) (fun v' : Value => hRow v' e RI (c' i) :: q) D o fr) :
    SW P ops (A ++ (gO L u e c ++ B)) (fun v' => A ++ (gO L (up u i v') e c' ++ B)) D o fr :=
  SW.perm (gO_out hi) (fun v' => by
    have := gO_in (A := A) (B := B) (u := u) (u' := up u i v') (e := e) (c := c) (c' := c') hn hi (fun j hj => S43.up_ne hj) hc
    rwa [S43.up_eq] at this) (k _)
theorem SW.gSet {ι : Type} [DecidableEq ι] {L : List ι} {u : ι → Value} {e : TypeId} {c c' : ι → List Int} {i : ι} {A B : List HObj} {D : Unit → Dat} (hn : L.Nodup) (hi : i ∈ L) (hc : ∀ j, j ≠ i → c' j = c j) (k : ∀ q : List HObj, SW P ops (hRow (u i) e RI (c i) :: q) (fun _ : Unit => hRow (u i) e RI (c' i) :: q) D o fr) :
    SW P ops (A ++ (gO L u e c ++ B)) (fun _ : Unit => A ++ (gO L u e c' ++ B)) D o fr :=
  SW.perm (gO_out hi) (fun _ => gO_in (A := A) (B := B) (u := u) (u' := u) (e := e) (c := c) (c' := c') hn hi (fun j _ => rfl) hc) (k _)
end
theorem gO_snoc {u : Nat → Value} {e : TypeId} {c c' : Nat → List Int} {n : Nat} {v : Value} {A B : List HObj} (hc : ∀ j, j < n → c' j = c j) : (hRow v e RI (c' n) :: (A ++ (gO (List.range n) u e c ++ B))).Perm (A ++ (gO (List.range (n + 1)) (up u n v) e c' ++ B)) := by
  have e1 : gO (List.range (n + 1)) (up u n v) e c' = gO (List.range n) u e c ++ [hRow v e RI (c' n)] := by
    unfold gO
    rw [List.range_succ, List.map_append, List.map_cons, List.map_nil, S43.up_eq]
    congr 1
    refine List.map_congr_left fun j hj => ?_
    have := List.mem_range.1 hj
    rw [S43.up_ne (by omega), hc j this]
  rw [e1, List.append_assoc, List.singleton_append, ← List.append_assoc]
  refine List.perm_middle.symm.trans ?_
  simp only [List.append_assoc]
  exact List.Perm.refl _
theorem range_snoc {u : Nat → Value} {n : Nat} {v : Value} : (List.range n).map u ++ [v] = (List.range (n + 1)).map (up u n v) := by
  rw [List.range_succ, List.map_append, List.map_cons, List.map_nil, S43.up_eq]
  congr 1
  refine List.map_congr_left fun j hj => ?_
  have := List.mem_range.1 hj
  rw [S43.up_ne (by omega)]
theorem CallC.nil1 {P : Program} {f : FuncId} {ds : List Dat} {hp1 : List HObj} {e : TypeId} {α : Type} {R : Rel α} {_gR : Good R} {xs : List α} (h : CallC P f ds hp1 fun d' hp2 => ∃ v, d' = dX v ∧ (hp2 = [hRow v e R xs] ∨ v = .slice none 0 0 ∧ xs = [] ∧ hp2 = [])) : CallC P f ds hp1 fun d' hp2 => ∃ v, d' = dX v ∧ hp2 = [hRow v e R xs] := ⟨fun P0 B w0 hp vs W hh hl hv => by
  refine Calls.mono (h.out P0 B w0 hp vs W hh hl hv) fun e' W' ⟨v, d, hp2, he, hk, hh2, hd⟩ => ?_
  obtain ⟨u, hdu, hk⟩ := hk
  rcases hk with rfl | ⟨rfl, rfl, rfl⟩
  · exact ⟨v, d, _, he, ⟨u, hdu, rfl⟩, hh2, hd⟩
  · exact ⟨v, d, [hRow (.slice none 0 0) e R []], he, ⟨_, hdu, rfl⟩, hh2.push (Ext.refl _) (by simp [hRow, Value.ownBlock]) Own.nil, Hp.pushed (Ext.refl _) (by simp [hRow, Value.ownBlock]) hd⟩⟩
theorem nil_A {α : Type} {R : Rel α} [Good R] {xs : List α} {I : Nat → Prop} {w : World} {v : Value} (h : (dS (Arr R) xs).rd I w v) : ∃ a m c, v = .slice a m c ∧ (a = none → m = 0) := by
  obtain ⟨ad, cap, rfl, h1, h2, h3⟩ := (h : Arr R I w v xs)
  refine ⟨_, _, _, rfl, fun hn => ?_⟩
  rcases Nat.eq_zero_or_pos xs.length with hz | hz
  · exact hz
  · obtain ⟨us, b, off, _, _, had, _, _⟩ := h3 0 hz
    rw [hn] at had; cases had
set_option linter.unusedSimpArgs false
set_option linter.unusedVariables false
set_option maxHeartbeats 2000000
set_option maxRecDepth 100000
theorem clone_c (xs : List Int) (hl : xs.length ≤ 1000000) : CallC Try.prog 52 ([dS Ints xs] ++ ([] : List Value).map dX) [] fun d' hp2 => ∃ v, d' = dX v ∧ hp2 = [hRow v tI RI xs] := by
  refine CallC.nil1 ?_
  (refine CallC.intro Try.func52 rfl rfl (fun hp => ?_); simp only [Try.ntmps52, List.length_cons, List.length_nil, List.length_append, List.length_map, Nat.reduceAdd, Nat.reduceSub, List.replicate_succ, List.replicate_zero, List.cons_append, List.nil_append, List.map_cons, List.map_nil, List.append_assoc])
  ((repeat' (first |  (refine WL.openE 4 rfl fun b hb => ?_; dsimp only [z0, z1]) | (apply WL.opN; exact yF; dsimp only [setD, z0, z1]) | refine WL.nil ?_ | refine WC.seqK fun Kx hK => ?_ | (refine hK _ _ ?_; clear hK) | refine WC.region ?_ |  (apply WL.build01 elI RI; (intro _; dsimp only [setD, z0, z1]); all_goals (try infer_instance)) | ((first | apply WL.appK | apply WL.app1); (exact eD); exact OpD.t rfl; (exact oD); decide; (exact lD); (intro _; dsimp only [setD, z0, z1]); all_goals (try infer_instance)) | (apply WL.opN; (focus ((first | (apply SY.eqNil; exact OpD.t rfl; (exact fun _ _ _ h => nil_A h); exact len_A; exact eqNilI) | fail); all_goals infer_instance)); dsimp only [setD, z0, z1]) | (apply WC.cond; (exact oD); all_goals (intro h; try exact xD)) | refine WC.skip ?_ | refine WC.ret ?_ | refine ThenD.r ?_)); all_goals (first | ((repeat clear hK); (repeat clear Kx))))
  · exact ⟨trivial, _, [], rfl, rfl, _, rfl, .inr ⟨rfl, hb h, rfl⟩⟩
  · exact ⟨trivial, _, [_], rfl, rfl, _, rfl, .inl (by rw [List.nil_append])⟩
theorem CallC.one1 {P : Program} {f : FuncId} {ds : List Dat} {hp1 : List HObj} {e : TypeId} {α : Type} {R : Rel α} {_gR : Good R} {xs : List α} (h : CallC P f ds hp1 fun d' hp2 => ∃ v, d' = dX v ∧ hp2 = [hRow v e R xs]) : CallC P f ds hp1 fun d' hp2 => ∃ v : {v : Value // v.oneCell' = true}, d' = dX v.1 ∧ hp2 = [hRow v.1 e R xs] := ⟨fun P0 B w0 hp vs W hh hl hv => by
  refine Calls.mono (h.out P0 B w0 hp vs W hh hl hv) fun e' W' ⟨v, d, hp2, he, hk, hh2, hd⟩ => ?_
  obtain ⟨u, rfl, rfl⟩ := hk
  exact ⟨v, _, _, he, ⟨⟨u, row_is (hh2.ok (hRow u e R xs) (by simp))⟩, rfl, rfl⟩, hh2, hd⟩⟩
def watS (w : Int → List Nat) (k : Nat) (l : List Int) : Int → List Nat := l.foldl (fun w x => up w x (w x ++ [k])) w
theorem watS_snoc (w : Int → List Nat) (k : Nat) (l : List Int) (x : Int) : watS w k (l ++ [x]) = up (watS w k l) x (watS w k l x ++ [k]) := by
  unfold watS; rw [List.foldl_append]; rfl
theorem watS_len (w : Int → List Nat) (k : Nat) : ∀ (l : List Int) (x : Int), (watS w k l x).length ≤ (w x).length + l.length := by
  intro l
  induction l generalizing w with
  | nil => intro x; simp [watS]
  | cons a l ih =>
    intro x
    have := ih (up w a (w a ++ [k])) x
    have e : watS w k (a :: l) x = watS (up w a (w a ++ [k])) k l x := rfl
    rw [e]
    refine Nat.le_trans this ?_
    by_cases h : x = a
    · subst h; rw [S43.up_eq]; simp only [List.length_append, List.length_cons, List.length_nil]; omega
    · rw [S43.up_ne h]; simp only [List.length_cons]; omega
theorem addS_two {s : SS} {c : List Int} (h : 2 ≤ c.length) : addS s c = { s with list := s.list ++ [c], watch := watS s.watch s.list.length (c.take 2) } := by
  match c, h with
  | a :: b :: r, _ => rfl
theorem addS_one {s : SS} {c : List Int} (h : c.length = 1) : addS s c = if s.val (-c[0]) then { s with list := s.list ++ [c], dead := true } else if s.val c[0] then { s with list := s.list ++ [c] } else assignS { s with list := s.list ++ [c] } c[0] (some s.list.length) := by
  match c, h with
  | [a], _ => rfl
theorem addS_nil {s : SS} {c : List Int} (h : c.length = 0) : addS s c = { s with list := s.list ++ [c], dead := true } := by
  cases List.length_eq_zero_iff.1 h; rfl
theorem getD_snoc {l : List S43.Cl} {c : S43.Cl} {j : Nat} (h : j < l.length) : (l ++ [c]).getD j [] = l.getD j [] := by
  rw [List.getD_eq_getElem?_getD, List.getD_eq_getElem?_getD, List.getElem?_append_left h]
theorem getD_last {l : List S43.Cl} {c : S43.Cl} : (l ++ [c]).getD l.length [] = c := by
  rw [List.getD_eq_getElem?_getD]; simp
abbrev Lay.ld (X : Lay) (vL : Value) (u : Nat → Value) : Lay := { X with vL := vL, u := u }
abbrev sL (s : SS) (c : S43.Cl) : SS := { s with list := s.list ++ [c] }
theorem fullE {X : Lay} {V : Nat} {s : SS} {hp : List HObj} : full X V s ++ hp = core X V s ++ (oW X :: oC X s :: (rowsC X s ++ (rowsW X V s ++ hp))) := by unfold full; simp only [List.append_assoc, List.cons_append]
set_option maxHeartbeats 16000000 in
theorem add_c (X : Lay) (V : Nat) (s : SS) (c : List Int) (hV : V ≤ 1000000) (hc : ∀ x ∈ c, x ≠ 0 ∧ x.natAbs ≤ V) (hcl : c.length ≤ 1000000) (hs : s.list.length ≤ 2000000000000) (hw : ∀ l, (s.watch l).length ≤ 2000000000000) (ht : s.trail.length ≤ 1000000) :
    CallC Try.prog 73 ([dX (ptrS X), dS Ints c] ++ ([] : List Value).map dX) (full X V s) (fun _ hp2 => ∃ vT vL u wv, hp2 = full { X with vT := vT, vL := vL, u := u, wv := wv } V (addS s c)) := by
  (refine CallC.intro0 Try.func73 rfl rfl (fun hp => ?_); simp only [Try.ntmps73, List.length_cons, List.length_nil, List.length_append, List.length_map, Nat.reduceAdd, Nat.reduceSub, List.replicate_succ, List.replicate_zero, List.cons_append, List.nil_append, List.map_cons, List.map_nil, List.append_assoc])
  rw [fullE]
  simp only [core, List.cons_append, List.nil_append]
  have e0 : ((List.range s.list.length).map X.u).length = s.list.length := by simp
  have h24 : (((List.range s.list.length).map X.u).length + 1) * 24 ≤ 140737488355328 := by rw [e0]; omega
  have hk := CallC.one1 (clone_c c hcl)
  have hks : ∀ d hp2, (∃ v : {v : Value // v.oneCell' = true}, d = dX v.1 ∧ hp2 = [hRow v.1 tI RI c]) → ∃ x : {v : Value // v.oneCell' = true}, d = dX x.1 ∧ hp2 = [hRow x.1 tI RI c] := fun _ _ h => h
  have hAs : ∀ (Y : Lay) (x : Int), x.natAbs ≤ 1000000 → CallC Try.prog 78 ([dX (ptrS Y), dI x, dI (s.list.length : Int)] ++ ([] : List Value).map dX) (core Y V { s with list := s.list ++ [c] }) (fun _ hp2 => ∃ v, hp2 = core { Y with vT := v } V (assignS { s with list := s.list ++ [c] } x (some s.list.length))) := fun Y x hx => assignR_c Y V { s with list := s.list ++ [c] } x s.list.length (by omega) hx ht
  have hl1 : (s.list ++ [c]).length = s.list.length + 1 := by simp
  have hpm : ∀ (vc vL : Value) (A B : List HObj), (hRow vc tI RI c :: (A ++ (gO (List.range s.list.length) X.u tI (fun k => s.list.getD k []) ++ B))).Perm (A ++ (gO (List.range (s.list ++ [c]).length) (up X.u s.list.length vc) tI (fun k => (s.list ++ [c]).getD k []) ++ B)) := fun vc vL A B => by
    have := gO_snoc (u := X.u) (e := tI) (c := fun k => s.list.getD k []) (c' := fun k => (s.list ++ [c]).getD k []) (n := s.list.length) (v := vc) (A := A) (B := B) (fun j hj => getD_snoc hj)
    simp only [getD_last] at this
    rw [hl1]; exact this
  have hrs : ∀ vc : Value, (List.range s.list.length).map X.u ++ [vc] = (List.range (s.list ++ [c]).length).map (up X.u s.list.length vc) := fun vc => by rw [hl1]; exact range_snoc
  (repeat' (first |  (refine WC.drawM (fun hp' => oS X V s ∈ hp') 9 3 [(0, false), (1, false), (2, false), (3, false), (4, false), (5, false), (6, true), (7, false), (8, true)] [true, true, true, true, true, true, true, true, true, false, false, false] (by kernel_rfl) (by kernel_rfl) (by kernel_rfl) rfl (mAt 0 rfl) ?_) |  (first | refine WA.one (S := [true, true, true, true, true, true, true, true, true, false, false, false]) (i := 9) (by kernel_rfl) rfl ?_ | refine WA.one (S := [true, true, true, true, true, true, true, true, true, true, false, false]) (i := 10) (by kernel_rfl) rfl ?_ | refine WA.one (S := [true, true, true, true, true, true, true, true, true, true, true, false]) (i := 11) (by kernel_rfl) rfl ?_ | refine WA.nil (S := [true, true, true, true, true, true, true, true, true, true, true, true]) (by kernel_rfl) ?_) |  (refine WM.writeL rfl (SW.callC (hp1 := []) (caps := []) (H := fun v : {v : Value // v.oneCell' = true} => [hRow v.1 tI RI c]) (D := fun v => dX v.1) hk Try.call52 OpD.f (by (exact aD)) hks) (fun _ => mAt 1 rfl) fun vc => ?_; obtain ⟨vc, hvc⟩ := vc; dsimp only [setD, z0, z1, List.cons_append, List.nil_append]) |  (refine WM.writeL rfl (SW.at 8 rfl fun q => SW.app1 elSi (R := RRow) (_gR := inferInstance) (OpD.t rfl) (OpD.t rfl) (by decide) h24) (fun _ => mAt 1 rfl) fun vL => ?_; dsimp only [setD, z0, z1]) | (refine WM.nil ?_) | (apply WM.readL rfl; (focus (intro c hcc; apply SYG.yes; (exact want_none rfl); ((first | (exact SY.nilCk (OpD.t rfl)) | (refine SY.fldS strS (OpD.t rfl) (by decide)) | (apply SY.loadS; (first | exact tyI | exact tySS | exact tySi | exact tyF | exact tyFL); exact OpD.t rfl; (first | exact hcc | exact mAt 0 rfl); rfl) | (exact SY.build1' elSi (R := RRow) (_gR := inferInstance) (els := [vc]) (ElsD.cn (OpD.tle rfl (le_XR hvc)) ElsD.nl) rfl rfl (fun _ => shape_R) (by simp)) | ((first | apply SY.move | apply SY.assign | apply SY.lss | apply SY.eql | apply SY.not) <;> (exact oD)) | fail); all_goals infer_instance))); dsimp only [setD, z0, z1]) | ((first | apply WL.opN | apply WD.opN); exact yF; dsimp only [setD, z0, z1]) | refine WL.nil ?_ | refine WC.seqK fun Kx hK => ?_ | (refine hK _ _ ?_; clear hK) | refine WC.region ?_ | (apply WC.draw; kernel_rfl; kernel_rfl) |  (refine WL.rowIs (mAt 8 rfl) fun hvv => ?_; refine WL.ofSW (SW.at 1 rfl fun q => SW.storeS tySS (OpD.t rfl) (OpD.t rfl) (shape_X hvv) (by simp)) fun _ => ?_; dsimp only [setD, z0, z1]; rw [hrs vc]; refine WL.perm (hpm vc vL (_ :: _ :: _ :: _ :: _ :: _ :: _ :: _ :: []) _) ?_; dsimp only [List.cons_append, List.nil_append]) | ((first | apply WL.opN | apply WD.opN); (focus ((first | (exact SY.nilCk (OpD.t rfl)) | (refine SY.fldS strS (OpD.t rfl) (by decide)) | (apply SY.loadS; (first | exact tyI | exact tySS | exact tySi | exact tyF | exact tyFL); exact OpD.t rfl; (first | exact hcc | exact mAt 0 rfl); rfl) | (exact SY.lenRE e0 (OpD.t rfl) (mAt 7 rfl) elSi.unt) | ((first | apply SY.move | apply SY.assign | apply SY.lss | apply SY.eql | apply SY.not) <;> (exact oD)) | (apply SY.len; (exact oD); (exact nD); (exact uD)) | fail); all_goals infer_instance)); dsimp only [setD, z0, z1]) | (apply WC.condD; (exact oD); all_goals (intro h; try exact xD)) | refine WC.block ?_))
  · have h0 : c.length = 0 := by omega
    ((repeat' (first | refine WL.nil ?_ |  (refine WL.ofSW (SW.at 0 rfl fun q => SW.storeS tyCos (OpD.t rfl) OpD.b shape_B (by simp)) fun _ => ?_; dsimp only [setD, z0, z1]) | refine InBlockD.n ?_)); all_goals (first | ((repeat clear hK); (repeat clear Kx))))
    rw [addS_nil h0]
    have e := @fullE { X with vL := vL, u := up X.u s.list.length vc } V { s with list := s.list ++ [c], dead := true } hp
    exact ⟨trivial, _, e.symm, X.vT, vL, _, X.wv, rfl⟩
  · have h1 : c.length = 1 := by omega
    have hp0 : 0 < c.length := by omega
    have hcx := hc _ (List.getElem_mem hp0)
    have hi1 : is64 c[0] := i64 (by omega)
    have hi2 : is64 (-c[0]) := i64 (by omega)
    (repeat' (first | ((first | apply WL.opN | apply WD.opN); exact yF; dsimp only [setD, z0, z1]) | refine WD.nil ?_ | refine WC.seqK fun Kx hK => ?_ | (refine hK _ _ ?_; clear hK) | refine WC.region ?_ | (apply WC.draw; kernel_rfl; kernel_rfl) | ((first | apply WL.opN | apply WD.opN); (focus ((first | (exact SY.neg (OpD.t rfl) (by omega)) | (refine SY.ix (R := RI) (_gR := inferInstance) (k := 0) elI (OpD.t rfl) OpD.i hp0) | (exact SY.nilCk (OpD.t rfl)) | (refine SY.fldS strS (OpD.t rfl) (by decide)) | (apply SY.loadS; exact tyF; exact OpD.t rfl; exact mAt 0 rfl; rfl) | (exact SY.valG (OpD.t rfl) (mAt 1 rfl) (OpD.t rfl) hi2) | fail); all_goals infer_instance)); dsimp only [setD, z0, z1]) | (apply WC.cond; (exact oD); all_goals (intro h; try exact xD))))
    · ((repeat' (first | refine WL.nil ?_ |  (refine WL.ofSW (SW.at 0 rfl fun q => SW.storeS tyCos (OpD.t rfl) OpD.b shape_B (by simp)) fun _ => ?_; dsimp only [setD, z0, z1]) | refine InBlockD.n ?_)); all_goals (first | ((repeat clear hK); (repeat clear Kx))))
      rw [addS_one h1, if_pos h]
      have e := @fullE { X with vL := vL, u := up X.u s.list.length vc } V { s with list := s.list ++ [c], dead := true } hp
      exact ⟨trivial, _, e.symm, X.vT, vL, _, X.wv, rfl⟩
    · ((repeat' (first | ((first | apply WL.opN | apply WD.opN); exact yF; dsimp only [setD, z0, z1]) | refine WL.nil ?_ | refine WD.nil ?_ | (refine hK _ _ ?_; clear hK) | refine WC.region ?_ |  (refine WL.callC (hp1 := core _ _ _) (caps := []) (hAs { X with vL := vL, u := up X.u s.list.length vc } c[0] (by omega)) Try.call78 OpD.f (by (exact aD)) ?_; rintro d' hp2 ⟨v2, rfl⟩; dsimp only [setD, z0, z1, List.cons_append, List.nil_append]) | ((first | apply WL.opN | apply WD.opN); (focus ((first | (refine SY.ix (R := RI) (_gR := inferInstance) (k := 0) elI (OpD.t rfl) OpD.i hp0) | (exact SY.valG (OpD.t rfl) (mAt 1 rfl) (OpD.t rfl) hi1) | ((first | apply SY.move | apply SY.assign | apply SY.lss | apply SY.eql | apply SY.not) <;> (exact oD)) | fail); all_goals infer_instance)); dsimp only [setD, z0, z1]) | (apply WC.condNB; (exact oD); all_goals (intro h; try exact xD)) | refine WC.skip ?_ | refine InBlockD.n ?_)); all_goals (first | ((repeat clear hK); (repeat clear Kx))))
      · rename_i hq
        rw [addS_one h1, if_neg (by simp [hq]), if_neg (by simp [h])]
        have e := @fullE { X with vL := vL, u := up X.u s.list.length vc, vT := v2 } V (assignS { s with list := s.list ++ [c] } c[0] (some s.list.length)) hp
        exact ⟨trivial, _, e.symm, v2, vL, _, X.wv, rfl⟩
      · rename_i hq
        rw [addS_one h1, if_neg (by simp [hq]), if_pos h]
        have e := @fullE { X with vL := vL, u := up X.u s.list.length vc } V { s with list := s.list ++ [c] } hp
        exact ⟨trivial, _, e.symm, X.vT, vL, _, X.wv, rfl⟩
  · have h2 : 2 ≤ c.length := by omega
    have ht2 : (c.take 2).length = 2 := by rw [List.length_take]; omega
    (repeat' (first | ((first | apply WL.opN | apply WD.opN); exact yF; dsimp only [setD, z0, z1]) | refine WL.nil ?_ | (refine hK _ _ ?_; clear hK) | ((first | apply WL.opN | apply WD.opN); (focus ((first | (exact SY.upto1 (R := RI) (_gR := inferInstance) (l := 2) elI (OpD.t rfl) OpD.i rfl h2) | (exact SY.lenAE (R := RI) (_gR := inferInstance) ht2 (OpD.t rfl) elI.unt) | fail); all_goals infer_instance)); dsimp only [setD, z0, z1]) | refine WC.block ?_))
    have hcb : ∀ x ∈ c, x ∈ lits V := fun x hx => lits_mem.2 (hc x hx)
    (refine WC.loopU (X := Nat × (Int → Value)) (fun x => [(26, dI (x.1 : Int)), (6, dA), (27, dA), (28, dA), (29, dA), (30, dA), (31, dA), (32, dA), (33, dA), (34, dA), (35, dA), (36, dA), (37, dA), (38, dA), (39, dA), (40, dA), (41, dA), (42, dA), (43, dA), (44, dA)]) (fun x => (oS (X.ld vL (up X.u s.list.length vc)) V (sL s c) :: oV X s :: oL X s :: oR X s :: oT X s :: oB X s :: hG X.bw kvI is64 idV (pWat x.2) :: oC (X.ld vL (up X.u s.list.length vc)) (sL s c) :: (rowsC (X.ld vL (up X.u s.list.length vc)) (sL s c) ++ (gO (lits V) x.2 tI (fun l => ints (watS s.watch s.list.length ((c.take 2).take x.1) l)) ++ hp)))) (fun x => 2 - x.1) (fun x => x.1 ≤ 2) (0, X.wv) ?start ?frame0 ?objs0 ?round)
    case start => exact Nat.zero_le _
    case frame0 => ((try dsimp only [upds, z0, z1]); repeat (first | exact LeF.nil | refine LeF.co (k := ?_)))
    case objs0 => rfl
    case round =>
      rintro ⟨i, wv⟩ hi
      simp only at hi
      dsimp only [upds, z0, z1]
      by_cases hi2 : i < 2
      · have hit : i < (c.take 2).length := by omega
        obtain ⟨a, ha⟩ : ∃ a, (c.take 2)[i] = a := ⟨_, rfl⟩
        have hac : a ∈ c := by rw [← ha]; exact List.take_subset _ _ (List.getElem_mem hit)
        have hal : a ∈ lits V := hcb a hac
        have ha6 : is64 a := i64 (by have := hc a hac; omega)
        have hts : (c.take 2).take (i + 1) = (c.take 2).take i ++ [a] := by rw [List.take_succ_eq_append_getElem hit, ha]
        have hwl := watS_len s.watch s.list.length ((c.take 2).take i) a
        have hwa := hw a
        have hl2 : ((c.take 2).take i).length ≤ 2 := by rw [List.length_take]; omega
        have h8 : ((ints (watS s.watch s.list.length ((c.take 2).take i) a)).length + 1) * 8 ≤ 140737488355328 := by rw [ints_len]; omega
        have hcx : ∀ j, j ≠ a → ints (watS s.watch s.list.length ((c.take 2).take (i + 1)) j) = ints (watS s.watch s.list.length ((c.take 2).take i) j) := fun j hj => by rw [hts, watS_snoc, S43.up_ne hj]
        have hca : ints (watS s.watch s.list.length ((c.take 2).take (i + 1)) a) = ints (watS s.watch s.list.length ((c.take 2).take i) a) ++ [(s.list.length : Int)] := by rw [hts, watS_snoc, S43.up_eq, ints_app]; rfl
        ((repeat' (first |  (refine WC.drawM (fun hp' => oS (X.ld vL (up X.u s.list.length vc)) V (sL s c) ∈ hp' ∧ hG X.bw kvI is64 idV (pWat wv) ∈ hp') 14 1 [(0, false), (1, false), (2, false), (3, false), (4, false), (5, false), (6, false), (7, false), (8, false), (9, false), (10, false), (11, false), (12, false), (13, true)] [true, true, true, true, true, true, true, true, true, true, true, true, true, true, false] (by kernel_rfl) (by kernel_rfl) (by kernel_rfl) rfl (⟨mAt 0 rfl, mAt 6 rfl⟩) ?_) |  (first | refine WA.one (S := [true, true, true, true, true, true, true, true, true, true, true, true, true, true, false]) (i := 14) (by kernel_rfl) rfl ?_ | refine WA.nil (S := [true, true, true, true, true, true, true, true, true, true, true, true, true, true, true]) (by kernel_rfl) ?_) |  (refine WM.writeL rfl (SW.gAt (A := _ :: _ :: _ :: _ :: _ :: _ :: _ :: _ :: rowsC (X.ld vL (up X.u s.list.length vc)) (sL s c)) (c' := fun l => ints (watS s.watch s.list.length ((c.take 2).take (i + 1)) l)) (D := fun v => dX v) (lits_nodup V) hal hcx fun q => by simp only [hca]; exact SW.app1 elI (OpD.t rfl) (OpD.t rfl) (by decide) h8) (fun _ => ⟨mAt 0 rfl, mAt 6 rfl⟩) fun v => ?_; dsimp only [setD, z0, z1, List.cons_append, List.nil_append]) | (refine WM.nil ?_) | (apply WM.readL rfl; (focus (intro c hcc; apply SYG.yes; (exact want_none rfl); ((first | (exact SY.nilCk (OpD.t rfl)) | (refine SY.fldS strS (OpD.t rfl) (by decide)) | (apply SY.loadS; exact tyCo; exact OpD.t rfl; exact hcc.1; rfl) | (exact SY.watG (OpD.t rfl) hcc.2 (OpD.t rfl) ha6) | ((first | apply SY.move | apply SY.assign | apply SY.lss | apply SY.eql | apply SY.not) <;> (exact oD)) | (apply SY.build1'; (exact eD); ((try simp only [List.map_cons, List.map_nil]); (repeat (first | exact ElsD.nl | (apply ElsD.cn; (first | exact OpD.t rfl | exact OpD.i | exact OpD.b | exact OpD.tle rfl (by first | exact Dat.le_nil | exact Dat.le_nilK (by decide)) | exact ⟨Dat.le_nil⟩ | exact ⟨Dat.le_nilK (by decide)⟩))))); rfl; rfl; (intro _; first | exact shape_K | exact shape_I | exact shape_A | exact shape_B); (exact (by simp))) | fail); all_goals infer_instance))); dsimp only [setD, z0, z1]) | ((first | apply WL.opN | apply WD.opN); exact yF; dsimp only [setD, z0, z1]) | refine WL.nil ?_ | refine WC.seqK fun Kx hK => ?_ | (refine hK _ _ ?_; clear hK) | refine WC.region ?_ |  (refine WL.ofSW (SW.at 6 rfl fun q => SW.updG (pWat (up wv a v)) mapT_w keyT_I (OpD.t rfl) (OpD.t rfl) isI (OpD.t rfl) isX ha6 (fun f hf => pWat_up f hf)) fun _ => ?_; dsimp only [setD, z0, z1]) | ((first | apply WL.opN | apply WD.opN); (focus ((first | (exact ha ▸ SY.ix (R := RI) (_gR := inferInstance) elI (OpD.t rfl) (OpD.t rfl) hit) | ((first | apply SY.move | apply SY.assign | apply SY.lss | apply SY.eql | apply SY.not) <;> (exact oD)) | ((first | apply SY.add) <;> first | exact oD | omega) | fail); all_goals infer_instance)); dsimp only [setD, z0, z1]) | (apply WC.condD; (exact oD); all_goals (intro h; try exact xD)) | refine WC.skip ?_ | refine WC.block ?_ | refine ThenD.n ?_)); all_goals (first | ((repeat clear hK); (repeat clear Kx))))
        all_goals try (exfalso; first | contradiction | omega)
        (refine ⟨(i + 1, up wv a v), ?_, by first | omega | (simp only; omega), rfl, ?_⟩; rotate_left; ((try dsimp only [upds, z0, z1]); repeat (first | exact LeF.nil | refine LeF.co (k := ?_))); (try dsimp only))
        omega
      · obtain rfl : i = 2 := by omega
        ((repeat' (first | refine WL.nil ?_ | refine WC.seqK fun Kx hK => ?_ | (refine hK _ _ ?_; clear hK) | refine WC.region ?_ | ((first | apply WL.opN | apply WD.opN); (focus ((first | ((first | apply SY.move | apply SY.assign | apply SY.lss | apply SY.eql | apply SY.not) <;> (exact oD)) | fail); all_goals infer_instance)); dsimp only [setD, z0, z1]) | (apply WC.condD; (exact oD); all_goals (intro h; try exact xD)) | refine WC.exit ?_ | refine ThenD.x ?_ | refine InBlockD.x ?_ | refine InBlockD.n ?_)); all_goals (first | ((repeat clear hK); (repeat clear Kx))))
        all_goals try (exfalso; first | contradiction | omega)
        rw [addS_two h2]
        have e := @fullE { X with vL := vL, u := up X.u s.list.length vc, wv := wv } V { s with list := s.list ++ [c], watch := watS s.watch s.list.length (c.take 2) } hp
        have et : (c.take 2).take 2 = c.take 2 := List.take_of_length_le (by omega)
        rw [et]
        exact ⟨trivial, _, e.symm, X.vT, vL, _, wv, rfl⟩
end Go.Proofs.Ytpiidgcljlalmaa
