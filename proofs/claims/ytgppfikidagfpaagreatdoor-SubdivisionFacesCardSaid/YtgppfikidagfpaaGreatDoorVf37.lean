/- Part 37: walks by contracts, and plain laws. -/
import Derived.Test.YtgppfikidagfpaaGreatDoorVf36
set_option linter.unusedVariables false
set_option linter.unusedSimpArgs false
set_option linter.unusedSectionVars false
namespace Go.Proofs.YtgppfikidagfpaaGreatDoor
open Go.RowKit
section
variable {ops : Array Oper} {hp : List HObj} {fr : List Dat} {dst : Option Tmp} {ty : TypeId} {ps : String} {af : Array Edge} {g : Option (Nat × Bool)} {x y : Operand}
theorem SY.minEE {m n c : Int} {ats : Array TypeId} (h : (if n < m then n else m) = c) (hx : OpD fr x (dI m)) (hy : OpD fr y (dI n)) : SY Tryz.prog ops hp { dst := dst, op := .call { callee := .builtin .min, args := #[x, y], argTypes := ats }, type := ty, pos := ps, after := af, guard := g } fr (dI c) := h ▸ SY.minI hx hy
end
section
variable {ops : Array Oper} {hp : List HObj} {fr : List Dat} {dst : Option Tmp} {ty : TypeId} {ps : String} {af : Array Edge} {g : Option (Nat × Bool)} {x y : Operand}
theorem SY.geqE {T T2 : TypeId} {p q : Int} {c : Bool} (h : decide (q ≤ p) = c) (hx : OpD fr x (dI p)) (hy : OpD fr y (dI q)) : SY Tryz.prog ops hp { dst := dst, op := .binOp .geq T x y T2, type := ty, pos := ps, after := af, guard := g } fr (dB c) := h ▸ SY.geq hx hy
end
theorem any_snocC {α : Type} {p : α → Bool} {l : List α} {k : Nat} (h : k < l.length) : (l.take (k + 1)).any p = ((l.take k).any p || p l[k]) := by
  rw [take_snoc' h, List.any_append]; simp
theorem flt_all {α : Type} (p : α → Bool) : ∀ l : List α, decide (((l.filter p).length : Int) = l.length) = l.all p
  | [] => by simp
  | x :: l => by
    have h := List.length_filter_le p l
    have ih := flt_all p l
    rw [List.all_cons, ← ih]
    cases hx : p x with
    | true => rw [List.filter_cons_of_pos hx, Bool.true_and]; simp only [List.length_cons]; exact decide_eq_decide.2 (by omega)
    | false => rw [List.filter_cons_of_neg (by simp [hx]), Bool.false_and]; simp only [List.length_cons]; exact decide_eq_false (by omega)
def prF (s f : List Vx) (x : Vx) : Bool := insideV (carB s x) f
def inT (F : Cx) (p : Vx → Bool) (k : Nat) : Cx := (F.map fun t => t.filter p).filter fun t => decide (t.length = k)
theorem inT_snoc {F : Cx} {p : Vx → Bool} {k i : Nat} (h : i < F.length) : inT (F.take (i + 1)) p k = inT (F.take i) p k ++ if (F[i].filter p).length = k then [F[i].filter p] else [] := by
  unfold inT
  rw [take_snoc' h, List.map_append, List.filter_append]
  congr 1
  show List.filter _ [F[i].filter p] = _
  by_cases q : (F[i].filter p).length = k
  · rw [if_pos q, List.filter_cons_of_pos (by simpa using q)]; rfl
  · rw [if_neg q, List.filter_cons_of_neg (by simpa using q)]; rfl
def prQ (s f : List Vx) (z : Vx × Vx) : Bool := decide (z.1.1 = z.2.1) && decide (carB f z.1 = carB s z.2)
def smQ (s f p q : List Vx) (i : Nat) : Bool := decide (p.length = q.length) && ((p.zip q).take i).all (prQ s f)
theorem smQ_end {s f p q : List Vx} {i : Nat} (h : min p.length q.length ≤ i) : smQ s f p q i = sameQ s f p q := by
  unfold smQ
  rw [List.take_of_length_le (by rw [List.length_zip]; exact h)]
  rfl
theorem smQ_snoc {s f p q : List Vx} {i : Nat} (h : i < p.length) (h' : i < q.length) : smQ s f p q (i + 1) = (smQ s f p q i && prQ s f (p[i], q[i])) := by
  unfold smQ
  have hz : i < (p.zip q).length := by rw [List.length_zip]; omega
  rw [take_snoc' hz, List.all_append, List.getElem_zip]
  simp [Bool.and_assoc]
structure SubK (s : List Vx) (F : Cx) (V : List Vx) (C : Cx) : Prop where
  len : C.length = V.length
  at' : ∀ (k : Nat) (h : k < V.length) (h' : k < C.length), C[k] = carB s V[k]
  inV : ∀ p ∈ F, ∀ x ∈ p, x ∈ V
  chk : ∀ x ∈ V, chkV (carB s x) = 0
  few : F.length ≤ 75
  short : ∀ p ∈ F, p.length ≤ 4
theorem subK_of {s : List Vx} (h : GoodS s) : SubK s (maxC (facB s)) (allV [] (facB s).flatten) ((allV [] (facB s).flatten).map (carB s)) where
  len := by rw [List.length_map]
  at' := fun k h h' => by rw [List.getElem_map]
  inV := fun p hp x hx => mem_allV.2 (.inr (List.mem_flatten.2 ⟨p, (mem_fac h).1 hp, hx⟩))
  chk := fun x hx => (car_is h (by rcases mem_allV.1 hx with q | q; cases q; exact q)).1
  few := fac_len4 h
  short := fun p hp => by rw [facB_len ((mem_fac h).1 hp)]; exact h.2.2
theorem SubK.idx {s : List Vx} {F : Cx} {V : List Vx} {C : Cx} (K : SubK s F V C) {x : Vx} (hx : x ∈ V) : ∃ (k : Nat) (h : k < C.length), pos29 V x = (k : Int) ∧ C[k] = carB s x := by
  obtain ⟨j, h1, h2, h3⟩ := pos_spec (pos_nn.2 hx)
  have hj : j < C.length := by rw [K.len]; exact h2
  exact ⟨j, hj, h1, by rw [K.at' j h2 hj, h3]⟩
theorem sub_is {s : List Vx} (hg : GoodS s) : subP s = ((maxC (facB s), allV [] (facB s).flatten, (allV [] (facB s).flatten).map (carB s)), 0) := by
  unfold subP; rw [if_neg (by rw [hg.1]; decide), if_neg (by rw [hg.2.1]; decide), if_neg (by have := hg.2.2; omega)]
theorem inF_of {s f : List Vx} (h : GoodS s) (hf : 1 ≤ f.length) : ofP (inF s f) = (maxC (inF s f), 0) := by
  have hl : (inF s f).length ≤ 75 := by
    have h1 := List.length_filter_le (fun t : List Vx => decide (t.length = f.length)) ((maxC (facB s)).map fun p => p.filter fun x => insideV (carB s x) f)
    rw [List.length_map] at h1
    have h2 := fac_len4 h
    unfold inF
    omega
  unfold ofP
  rw [if_neg (by omega), if_neg]
  intro q
  refine q (errC_ok fun t ht => ?_)
  obtain ⟨h1, h2⟩ := List.mem_filter.1 ht
  obtain ⟨p, hp, rfl⟩ := List.mem_map.1 h1
  have hk := fac_chk h.1 h.2.1 (by have := h.2.2; omega) p ((mem_fac h).1 hp)
  obtain ⟨k1, k2, k3, k4⟩ := chkV_zero.1 hk
  have hlen := of_decide_eq_true h2
  have hsub : (p.filter fun x => insideV (carB s x) f).Sublist p := List.filter_sublist
  exact chkV_zero.2 ⟨by omega, by have := hsub.length_le; omega, fun x hx => k3 x (hsub.subset hx), List.Pairwise.sublist hsub k4⟩
set_option linter.unusedSimpArgs false

set_option maxHeartbeats 2000000
set_option maxRecDepth 100000
set_option maxHeartbeats 32000000 in
theorem faces29l_p (s : List Vx) (w : Int) (hw : 0 ≤ w ∧ w ≤ 255) : Fn Tryz.prog 5 [dS Verts s, dX (.int .u8 w)] (dB true) := by
  have cg := good29_p s
  have ca := awake29_p
  by_cases hg : GoodS s
  · rw [show gd29 s = true from decide_eq_true hg] at cg
    obtain ⟨m, rfl⟩ := Int.eq_ofNat_of_zero_le hw.1
    have hs4 := hg.2.2
    have cAt := at29_c s m (by omega) (by omega)
    by_cases hf0 : atB s m = []
    · rw [hf0] at cAt
      (refine Fn.intro1 Tryz.func5 rfl rfl ?_; simp only [Tryz.ntmps5, List.length_cons, List.length_nil, Nat.reduceAdd, Nat.reduceSub, List.replicate_succ, List.replicate_zero, List.cons_append, List.nil_append])
      ((repeat' (first | ((first | apply WL.opN | apply WD.opN); exact yF; dsimp only [setD, z0, z1]) | refine WL.nil ?_ | refine WC.seqK fun Kx hK => ?_ | (refine hK _ _ ?_; clear hK) | refine WC.region ?_ | ((first | apply WL.opG | apply WD.op); (focus (first | exact wN | (apply SYG.yes; (exact wY); ((first | (apply SY.call (cg) Tryz.call23; (exact aD)) | (exact SY.notT (OpD.t rfl)) | (exact SY.convX (OpD.t rfl) (cvU8 _ hw)) | (apply SY.call (cAt) Tryz.call28; (exact aD)) | (apply SY.call (ca) Tryz.call13; (exact aD)) | ((first | apply SY.move | apply SY.assign | apply SY.lss | apply SY.geq | apply SY.eql | apply SY.neq | apply SY.not) <;> (exact oD)) | (apply SY.len; (exact oD); (exact nD); (exact uD)) | fail); all_goals infer_instance)))); dsimp only [setD, z0, z1]) | (apply WC.condF; (exact oD); (with_reducible rfl)) | (apply WC.condD; (exact oD); all_goals (intro h; try exact xD)) | refine WC.skip ?_ | refine WC.ret ?_ | refine ThenD.r ?_)); all_goals (first | ((repeat clear hK); (repeat clear Kx))))
      all_goals try (exfalso; first | contradiction | omega | (simp only [List.length_nil] at *; omega))
      all_goals (refine ⟨trivial, _, rfl, ?_⟩; exact fD)
    · have hgf := face_goodS hg hf0
      have hfl := hgf.len
      have hf4 := hgf.2.2
      have hch := hgf.1
      obtain ⟨p1, p2⟩ := faces_plain hg hf0
      have hOf := inF_of hg hfl
      have K1 := subK_of hg
      have K2 := subK_of hgf
      have cS := simplex29_p s
      rw [sub_is hg] at cS
      have cT := simplex29_p (atB s m)
      rw [sub_is hgf] at cT
      have hcV : ∀ q ∈ maxC (inF s (atB s m)), ∀ x ∈ q, x ∈ allV [] (facB s).flatten := fun q hq x hx => by
        obtain ⟨h1, _⟩ := List.mem_filter.1 (maxC_mem.1 hq).1
        obtain ⟨p, hp, rfl⟩ := List.mem_map.1 h1
        exact K1.inV p hp x (List.mem_filter.1 hx).1
      have hcl : ∀ q ∈ maxC (inF s (atB s m)), q.length ≤ 4 := fun q hq => by
        obtain ⟨h1, h2⟩ := List.mem_filter.1 (maxC_mem.1 hq).1
        have := of_decide_eq_true h2
        omega
      have hcn := fac_len4 hgf
      have cO := of27_p (inF s (atB s m))
      rw [hOf] at cO
      rw [show inF s (atB s m) = inT (maxC (facB s)) (prF s (atB s m)) (atB s m).length from rfl] at *
      have hfe : decide ((((atB s m).length : Nat) : Int) = 0) = false := decide_eq_false (by omega)
      generalize hf : atB s m = f at *
      generalize maxC (inT (maxC (facB s)) (prF s f) f.length) = c at *
      generalize maxC (facB s) = F at *
      generalize (allV [] (facB s).flatten).map (carB s) = C at *
      generalize allV [] (facB s).flatten = V at *
      generalize maxC (facB f) = F2 at *
      generalize (allV [] (facB f).flatten).map (carB f) = C2 at *
      generalize allV [] (facB f).flatten = V2 at *
      have hF75 := K1.few
      have hl1 : ((V.length : Nat) : Int) = (C.length : Nat) := by rw [K1.len]
      have hl2 : ((V2.length : Nat) : Int) = (C2.length : Nat) := by rw [K2.len]
      have hl3 : ((c.length : Nat) : Int) = (F2.length : Nat) := by rw [p1]
      (refine Fn.intro1 Tryz.func5 rfl rfl ?_; simp only [Tryz.ntmps5, List.length_cons, List.length_nil, Nat.reduceAdd, Nat.reduceSub, List.replicate_succ, List.replicate_zero, List.cons_append, List.nil_append])
      (repeat' (first |  (refine WC.freezeC (t := 6) rfl ?_; dsimp only [z0, z1]) |  (refine WC.freezeC (t := 8) rfl ?_; dsimp only [z0, z1]) | ((first | apply WL.opN | apply WD.opN); exact yF; dsimp only [setD, z0, z1]) | refine WL.nil ?_ | refine WC.seqK fun Kx hK => ?_ | (refine hK _ _ ?_; clear hK) | refine WC.region ?_ |  (refine WL.alloc tzSb (shape_X3 rfl rfl rfl) fun b6 => ?_; dsimp only [setD, z0, z1]) |  (refine WL.storeK tySb (OpD.t rfl) (OpD.t rfl) shape_R3 ?_; dsimp only [setD, z0, z1]) | ((first | apply WL.opG | apply WD.op); (focus (first | exact wN | (apply SYG.yes; (exact wY); ((first | (apply SY.call (cg) Tryz.call23; (exact aD)) | (exact SY.notT (OpD.t rfl)) | (exact SY.convX (OpD.t rfl) (cvU8 _ hw)) | (apply SY.call (cAt) Tryz.call28; (exact aD)) | (apply SY.call (cS) Tryz.call18; exact ArgsD.cons (OpD.t rfl) (ArgsD.nil)) | (apply SY.call (cT) Tryz.call18; exact ArgsD.cons (OpD.t rfl) (ArgsD.nil)) | (exact SY.eqlE hfe (OpD.t rfl) OpD.i) | (exact SY.fldA strSb (OpD.t rfl) R3_agg rfl rfl) | (exact SY.fldD strCx (Nat.le_refl 1) (OpD.t rfl)) | (apply SY.load; exact tySi; exact OpD.t rfl) | (apply SY.load; exact tySS; exact OpD.t rfl) | (exact SY.add00' (OpD.t rfl) (OpD.t rfl)) | (exact SY.neqF (p := 0) (q := 0) rfl (OpD.t rfl) OpD.i) | (exact SY.neqF hl1 (OpD.t rfl) (OpD.t rfl)) | (exact SY.neqF hl2 (OpD.t rfl) (OpD.t rfl)) | (apply SY.len; (exact oD); (exact nD); (exact uD)) | (apply SY.pickF; (exact oD); (with_reducible rfl); (exact oD)) | (apply SY.extract; (exact oD); rfl) | fail); all_goals infer_instance)))); dsimp only [setD, z0, z1]) | (apply WC.condF; (exact oD); (with_reducible rfl)) | refine WC.skip ?_ | refine WC.block ?_))
      all_goals try (exfalso; first | contradiction | omega)
      refine WC.nilRow 22 Verts ?_
      (refine WC.loopU (X := Nat × Value) (fun x => [(10, dX x.2), (77, dI (x.1 : Int)), (4, dA), (12, dA), (13, dA), (15, dA), (16, dA), (17, dA), (18, dA), (78, dA), (79, dA), (80, dA), (81, dA), (82, dA), (83, dA), (84, dA), (85, dA), (86, dA), (87, dA), (88, dA), (89, dA), (90, dA), (91, dA), (92, dA), (93, dA), (94, dA), (95, dA), (96, dA), (97, dA), (98, dA), (99, dA), (100, dA), (101, dA), (102, dA), (103, dA), (104, dA), (105, dA), (106, dA), (107, dA), (108, dA), (109, dA), (110, dA), (111, dA), (112, dA), (113, dA), (114, dA), (115, dA), (116, dA), (117, dA), (118, dA), (119, dA), (120, dA)]) (fun x => [hRow x.2 22 Verts (inT (F.take x.1) (prF s f) f.length)]) (fun x => F.length - x.1) (fun x => x.1 ≤ F.length) (0, .slice none 0 0) ?start ?frame0 ?objs0 ?round)
      case start => exact Nat.zero_le _
      case frame0 => ((try dsimp only [upds, z0, z1]); repeat (first | exact LeF.nil | refine LeF.co (k := ?_)))
      case objs0 => rfl
      case round =>
        rintro ⟨i, u⟩ i1
        simp only at i1
        dsimp only [upds, z0, z1]
        have hIl : (inT (F.take i) (prF s f) f.length).length ≤ 75 := by
          have h1 := List.length_filter_le (fun t : List Vx => decide (t.length = f.length)) ((F.take i).map fun t => t.filter (prF s f))
          rw [List.length_map, List.length_take] at h1
          unfold inT
          omega
        have hsn := fun h => inT_snoc (F := F) (p := prF s f) (k := f.length) (i := i) h
        generalize hII : inT (F.take i) (prF s f) f.length = I at *
        by_cases hi : i < F.length
        · have hiV := K1.inV _ (List.getElem_mem hi)
          have hi4 := K1.short _ (List.getElem_mem hi)
          have hsn1 := hsn hi
          generalize hpe : F[i] = p at *
          (repeat' (first | ((first | apply WL.opN | apply WD.opN); exact yF; dsimp only [setD, z0, z1]) | refine WL.nil ?_ | refine WC.seqK fun Kx hK => ?_ | (refine hK _ _ ?_; clear hK) | refine WC.region ?_ | ((first | apply WL.opG | apply WD.op); (focus (first | exact wN | (apply SYG.yes; (exact wY); ((first | (refine SY.ixE1 (R := Verts) (_gR := inferInstance) elSi hi hpe (OpD.t rfl) (OpD.t rfl)) | ((first | apply SY.move | apply SY.assign | apply SY.lss | apply SY.geq | apply SY.eql | apply SY.neq | apply SY.not) <;> (exact oD)) | (apply SY.len; (exact oD); (exact nD); (exact uD)) | fail); all_goals infer_instance)))); dsimp only [setD, z0, z1]) | (apply WC.condD; (exact oD); all_goals (intro h; try exact xD)) | refine WC.skip ?_ | refine WC.block ?_))
          all_goals try (exfalso; first | contradiction | omega)
          refine WC.nilRowK 52 2 (by decide) RV ?_
          (refine WC.loopU (X := Nat × Value) (fun x => [(13, dX x.2), (83, dI (x.1 : Int)), (4, dA), (15, dA), (16, dA), (17, dA), (18, dA), (84, dA), (85, dA), (86, dA), (87, dA), (88, dA), (89, dA), (90, dA), (91, dA), (92, dA), (93, dA), (94, dA), (95, dA), (96, dA), (97, dA), (98, dA), (99, dA), (100, dA), (101, dA), (102, dA), (103, dA), (104, dA), (105, dA), (106, dA), (107, dA), (108, dA), (109, dA), (110, dA)]) (fun x => (hRowK x.2 52 2 RV ((p.take x.1).filter (prF s f)) :: hRow u 22 Verts I :: [])) (fun x => p.length - x.1) (fun x => x.1 ≤ p.length) (0, .slice none 0 0) ?start ?frame0 ?objs0 ?round)
          case start => exact Nat.zero_le _
          case frame0 => ((try dsimp only [upds, z0, z1]); repeat (first | exact LeF.nil | refine LeF.co (k := ?_)))
          case objs0 => rfl
          case round =>
            rintro ⟨j, v⟩ j1
            simp only at j1
            dsimp only [upds, z0, z1]
            have htl : ((p.take j).filter (prF s f)).length ≤ 4 := by
              have h1 := List.length_filter_le (prF s f) (p.take j)
              rw [List.length_take] at h1
              omega
            by_cases hj : j < p.length
            · obtain ⟨k, k1, k2, k3⟩ := K1.idx (hiV _ (List.getElem_mem hj))
              have hck := K1.chk _ (hiV _ (List.getElem_mem hj))
              have cI : Fn Tryz.prog 29 [dS Verts V, dS RV p[j]] (dI (k : Int)) := by
                have := idx_p V p[j]
                rwa [show idxG (fun y => decide (p[j] = y)) 0 V = (k : Int) from k2] at this
              have cF := face_p (carB s p[j]) f (by have := (chkV_zero.1 hck).2.1; omega)
              rw [show orI [chkV (carB s p[j]), chkV f] = 0 by rw [hck, hch]; rfl, if_neg (by decide), flt_all] at cF
              rw [show ((carB s p[j]).all fun x => decide (x ∈ f)) = prF s f p[j] from rfl] at cF
              have hst : (p.take (j + 1)).filter (prF s f) = (p.take j).filter (prF s f) ++ if prF s f p[j] = true then [p[j]] else [] := by
                rw [take_snoc' hj, List.filter_append]
                congr 1
                cases hb : prF s f p[j] with
                | true => rw [List.filter_cons_of_pos hb, if_pos rfl]; rfl
                | false => rw [List.filter_cons_of_neg (by simp [hb]), if_neg (by decide)]; rfl
              cases hb : prF s f p[j] with
              | true =>
                rw [hb] at cF
                rw [hb, if_pos rfl] at hst
                ((repeat' (first |  (refine WC.freezeC (t := 15) rfl ?_; dsimp only [z0, z1]) | ((first | apply WL.opN | apply WD.opN); exact yF; dsimp only [setD, z0, z1]) | refine WL.nil ?_ | refine WC.seqK fun Kx hK => ?_ | (refine hK _ _ ?_; clear hK) | refine WC.region ?_ |  (refine WL.alloc tzVx shape_XV fun b15 => ?_; dsimp only [setD, z0, z1]) |  (refine WL.storeK tyV (OpD.t rfl) (OpD.t rfl) shape_V ?_; dsimp only [setD, z0, z1]) | ((first | apply WL.pushK | apply WL.push1); (exact eD); exact OpD.t rfl; (exact oD); (intro _; exact hD); (exact (by simp)); (exact (by simp)); (first | exact ⟨by decide, by decide⟩ | skip); decide; (exact lD); (intro _; dsimp only [setD, z0, z1]); all_goals (try infer_instance)) | ((first | apply WL.opG | apply WD.op); (focus (first | exact wN | (apply SYG.yes; (exact wY); ((first | (refine SY.ixE (R := RV) (_gR := inferInstance) elV hj rfl (OpD.t rfl) (OpD.t rfl)) | (exact SY.fldA strSb (OpD.t rfl) R3_agg rfl rfl) | (apply SY.call (cI) Tryz.call29; (exact aD)) | (refine SY.ixE1 (R := Verts) (_gR := inferInstance) elSi k1 k3 (OpD.t rfl) (OpD.t rfl)) | (apply SY.call (cF) Tryz.call30; (exact aD)) | (exact SY.neqF (p := 0) (q := 0) rfl (OpD.t rfl) OpD.i) | ((first | apply SY.move | apply SY.assign | apply SY.lss | apply SY.geq | apply SY.eql | apply SY.neq | apply SY.not) <;> (exact oD)) | ((first | apply SY.add) <;> first | exact oD | omega) | (apply SY.extract; (exact oD); rfl) | fail); all_goals infer_instance)))); dsimp only [setD, z0, z1]) | (apply WC.condT; (exact oD); (with_reducible rfl)) | (apply WC.condF; (exact oD); (with_reducible rfl)) | (apply WC.condD; (exact oD); all_goals (intro h; try exact xD)) | refine WC.skip ?_ | refine WC.block ?_ | refine ThenD.n ?_)); all_goals (first | ((repeat clear hK); (repeat clear Kx))))
                all_goals try (exfalso; first | contradiction | omega)
                (refine ⟨(j + 1, _) , ?_, by first | omega | (simp only; omega), by ((try simp only);  (rw [hst])), ?_⟩; rotate_left; ((try dsimp only [upds, z0, z1]); repeat (first | exact LeF.nil | refine LeF.co (k := ?_))); (try dsimp only))
                omega
              | false =>
                rw [hb] at cF
                rw [hb, if_neg (by decide), List.append_nil] at hst
                ((repeat' (first |  (refine WC.freezeC (t := 15) rfl ?_; dsimp only [z0, z1]) | ((first | apply WL.opN | apply WD.opN); exact yF; dsimp only [setD, z0, z1]) | refine WL.nil ?_ | refine WC.seqK fun Kx hK => ?_ | (refine hK _ _ ?_; clear hK) | refine WC.region ?_ |  (refine WL.alloc tzVx shape_XV fun b15 => ?_; dsimp only [setD, z0, z1]) |  (refine WL.storeK tyV (OpD.t rfl) (OpD.t rfl) shape_V ?_; dsimp only [setD, z0, z1]) | ((first | apply WL.opG | apply WD.op); (focus (first | exact wN | (apply SYG.yes; (exact wY); ((first | (refine SY.ixE (R := RV) (_gR := inferInstance) elV hj rfl (OpD.t rfl) (OpD.t rfl)) | (exact SY.fldA strSb (OpD.t rfl) R3_agg rfl rfl) | (apply SY.call (cI) Tryz.call29; (exact aD)) | (refine SY.ixE1 (R := Verts) (_gR := inferInstance) elSi k1 k3 (OpD.t rfl) (OpD.t rfl)) | (apply SY.call (cF) Tryz.call30; (exact aD)) | (exact SY.neqF (p := 0) (q := 0) rfl (OpD.t rfl) OpD.i) | ((first | apply SY.move | apply SY.assign | apply SY.lss | apply SY.geq | apply SY.eql | apply SY.neq | apply SY.not) <;> (exact oD)) | ((first | apply SY.add) <;> first | exact oD | omega) | (apply SY.extract; (exact oD); rfl) | fail); all_goals infer_instance)))); dsimp only [setD, z0, z1]) | (apply WC.condF; (exact oD); (with_reducible rfl)) | (apply WC.condD; (exact oD); all_goals (intro h; try exact xD)) | refine WC.skip ?_ | refine WC.block ?_ | refine ThenD.n ?_)); all_goals (first | ((repeat clear hK); (repeat clear Kx))))
                all_goals try (exfalso; first | contradiction | omega)
                (refine ⟨(j + 1, _) , ?_, by first | omega | (simp only; omega), by ((try simp only);  (rw [hst])), ?_⟩; rotate_left; ((try dsimp only [upds, z0, z1]); repeat (first | exact LeF.nil | refine LeF.co (k := ?_))); (try dsimp only))
                omega
            · rw [List.take_of_length_le (show p.length ≤ j by omega)] at htl ⊢
              generalize ht : p.filter (prF s f) = t at *
              refine WC.keepK (s := 13) rfl ?_
              dsimp only [z0, z1]
              by_cases hle : t.length = f.length
              · rw [if_pos hle] at hsn1
                have hle2 : decide ((t.length : Int) = (f.length : Int)) = true := decide_eq_true (by omega)
                ((repeat' (first | ((first | apply WL.opN | apply WD.opN); exact yF; dsimp only [setD, z0, z1]) | refine WL.nil ?_ | refine WC.seqK fun Kx hK => ?_ | (refine hK _ _ ?_; clear hK) | (refine Kont.skip ?_; clear hK) | refine WC.region ?_ | ((first | apply WL.pushK | apply WL.push1); (exact eD); exact OpD.t rfl; (exact oD); (intro _; exact hD); (exact (by simp)); (exact (by simp)); (first | exact ⟨by decide, by decide⟩ | skip); decide; (exact lD); (intro _; dsimp only [setD, z0, z1]); all_goals (try infer_instance)) | ((first | apply WL.opG | apply WD.op); (focus (first | exact wN | (apply SYG.yes; (exact wY); ((first | (exact SY.eqlE hle2 (OpD.t rfl) (OpD.t rfl)) | ((first | apply SY.move | apply SY.assign | apply SY.lss | apply SY.geq | apply SY.eql | apply SY.neq | apply SY.not) <;> (exact oD)) | ((first | apply SY.add) <;> first | exact oD | omega) | (apply SY.len; (exact oD); (exact nD); (exact uD)) | fail); all_goals infer_instance)))); dsimp only [setD, z0, z1]) | (apply WC.condT; (exact oD); (with_reducible rfl)) | (apply WC.condD; (exact oD); all_goals (intro h; try exact xD)) | refine WC.exit ?_ | refine ThenD.n ?_)); all_goals (first | ((repeat clear hK); (repeat clear Kx))))
                all_goals try (exfalso; first | contradiction | omega)
                (refine ⟨(i + 1, _) , ?_, by first | omega | (simp only; omega), by ((try simp only);  (rw [hsn1])), ?_⟩; rotate_left; ((try dsimp only [upds, z0, z1]); repeat (first | exact LeF.nil | refine LeF.co (k := ?_))); (try dsimp only))
                omega
              · rw [if_neg hle, List.append_nil] at hsn1
                have hle2 : decide ((t.length : Int) = (f.length : Int)) = false := decide_eq_false (by omega)
                ((repeat' (first | ((first | apply WL.opN | apply WD.opN); exact yF; dsimp only [setD, z0, z1]) | refine WL.nil ?_ | refine WC.seqK fun Kx hK => ?_ | (refine hK _ _ ?_; clear hK) | (refine Kont.skip ?_; clear hK) | refine WC.region ?_ | ((first | apply WL.opG | apply WD.op); (focus (first | exact wN | (apply SYG.yes; (exact wY); ((first | (exact SY.eqlE hle2 (OpD.t rfl) (OpD.t rfl)) | ((first | apply SY.move | apply SY.assign | apply SY.lss | apply SY.geq | apply SY.eql | apply SY.neq | apply SY.not) <;> (exact oD)) | ((first | apply SY.add) <;> first | exact oD | omega) | (apply SY.len; (exact oD); (exact nD); (exact uD)) | fail); all_goals infer_instance)))); dsimp only [setD, z0, z1]) | (apply WC.condF; (exact oD); (with_reducible rfl)) | (apply WC.condD; (exact oD); all_goals (intro h; try exact xD)) | refine WC.skip ?_ | refine WC.exit ?_ | refine ThenD.n ?_)); all_goals (first | ((repeat clear hK); (repeat clear Kx))))
                all_goals try (exfalso; first | contradiction | omega)
                (refine ⟨(i + 1, _) , ?_, by first | omega | (simp only; omega), by ((try simp only);  (rw [hsn1])), ?_⟩; rotate_left; ((try dsimp only [upds, z0, z1]); repeat (first | exact LeF.nil | refine LeF.co (k := ?_))); (try dsimp only))
                omega
        · rw [List.take_of_length_le (show F.length ≤ i by omega)] at hII
          rw [hII] at cO
          refine WC.keep1 (s := 10) rfl ?_
          dsimp only [z0, z1]
          (repeat' (first |  (refine WC.freezeC (t := 19) rfl ?_; dsimp only [z0, z1]) | ((first | apply WL.opN | apply WD.opN); exact yF; dsimp only [setD, z0, z1]) | refine WL.nil ?_ | refine WC.seqK fun Kx hK => ?_ | (refine hK _ _ ?_; clear hK) | (refine Kont.skip ?_; clear hK) | refine WC.region ?_ |  (refine WL.alloc tzC (shape_C0 rfl) fun b19 => ?_; dsimp only [setD, z0, z1]) |  (refine WL.storeK tyC (OpD.t rfl) (OpD.t rfl) shape_C ?_; dsimp only [setD, z0, z1]) | ((first | apply WL.opG | apply WD.op); (focus (first | exact wN | (apply SYG.yes; (exact wY); ((first | (apply SY.call (cO) Tryz.call31; (exact aD)) | (exact SY.fldA strSb (OpD.t rfl) R3_agg rfl rfl) | (exact SY.fldD strCx (Nat.le_refl 1) (OpD.t rfl)) | (apply SY.load; exact tySS; exact OpD.t rfl) | (exact SY.neqF (p := 0) (q := 0) rfl (OpD.t rfl) OpD.i) | (exact SY.neqF hl3 (OpD.t rfl) (OpD.t rfl)) | ((first | apply SY.move | apply SY.assign | apply SY.lss | apply SY.geq | apply SY.eql | apply SY.neq | apply SY.not) <;> (exact oD)) | (apply SY.len; (exact oD); (exact nD); (exact uD)) | (apply SY.fldC cpxT; exact OpD.t rfl) | (apply SY.pickF; (exact oD); (with_reducible rfl); (exact oD)) | (apply SY.extract; (exact oD); rfl) | fail); all_goals infer_instance)))); dsimp only [setD, z0, z1]) | (apply WC.condF; (exact oD); (with_reducible rfl)) | (apply WC.condD; (exact oD); all_goals (intro h; try exact xD)) | refine WC.skip ?_ | refine WC.exit ?_ | refine WC.block ?_))
          all_goals try (exfalso; first | contradiction | omega)
          (refine WC.loopU (X := Nat) (fun i => [(142, dI (i : Int)), (4, dA), (21, dA), (22, dA), (24, dA), (25, dA), (26, dA), (27, dA), (28, dA), (143, dA), (144, dA), (145, dA), (146, dA), (147, dA), (148, dA), (149, dA), (150, dA), (151, dA), (152, dA), (153, dA), (154, dA), (155, dA), (156, dA), (157, dA), (158, dA), (159, dA), (160, dA), (161, dA), (162, dA), (163, dA), (164, dA), (165, dA), (166, dA), (167, dA), (168, dA), (169, dA), (170, dA), (171, dA), (172, dA), (173, dA), (174, dA), (175, dA), (176, dA), (177, dA), (178, dA), (179, dA), (180, dA), (181, dA), (182, dA), (183, dA), (184, dA), (185, dA), (186, dA), (187, dA), (188, dA), (189, dA), (190, dA), (191, dA), (192, dA), (193, dA), (194, dA), (195, dA), (196, dA), (197, dA), (198, dA), (199, dA), (200, dA), (201, dA), (202, dA), (203, dA), (204, dA), (205, dA), (206, dA), (207, dA), (208, dA), (209, dA), (210, dA), (211, dA), (212, dA), (213, dA), (214, dA), (215, dA), (216, dA), (217, dA), (218, dA), (219, dA), (220, dA), (221, dA), (222, dA), (223, dA)]) (fun i => []) (fun i => F2.length - i) (fun i => i ≤ F2.length) 0 ?start ?frame0 ?objs0 ?round)
          case start => exact Nat.zero_le _
          case frame0 => ((try dsimp only [upds, z0, z1]); repeat (first | exact LeF.nil | refine LeF.co (k := ?_)))
          case objs0 => rfl
          case round =>
            rintro i2 i3
            dsimp only [upds, z0, z1]
            by_cases hi2 : i2 < F2.length
            · have hpV2 := K2.inV _ (List.getElem_mem hi2)
              have hp4 := K2.short _ (List.getElem_mem hi2)
              have hany := p2 _ (List.getElem_mem hi2)
              generalize hpe : F2[i2] = p at *
              (repeat' (first | ((first | apply WL.opN | apply WD.opN); exact yF; dsimp only [setD, z0, z1]) | refine WL.nil ?_ | refine WC.seqK fun Kx hK => ?_ | (refine hK _ _ ?_; clear hK) | refine WC.region ?_ | ((first | apply WL.opG | apply WD.op); (focus (first | exact wN | (apply SYG.yes; (exact wY); ((first | (refine SY.ixE1 (R := Verts) (_gR := inferInstance) elSi hi2 hpe (OpD.t rfl) (OpD.t rfl)) | ((first | apply SY.move | apply SY.assign | apply SY.lss | apply SY.geq | apply SY.eql | apply SY.neq | apply SY.not) <;> (exact oD)) | (apply SY.len; (exact oD); (exact nD); (exact uD)) | (apply SY.fldC cpxT; exact OpD.t rfl) | fail); all_goals infer_instance)))); dsimp only [setD, z0, z1]) | (apply WC.condD; (exact oD); all_goals (intro h; try exact xD)) | refine WC.skip ?_ | refine WC.block ?_))
              all_goals try (exfalso; first | contradiction | omega)
              (refine WC.loopU (X := Nat × Bool) (fun x => [(22, dB x.2), (149, dI (x.1 : Int)), (24, dA), (25, dA), (26, dA), (27, dA), (28, dA), (150, dA), (151, dA), (152, dA), (153, dA), (154, dA), (155, dA), (156, dA), (157, dA), (158, dA), (159, dA), (160, dA), (161, dA), (162, dA), (163, dA), (164, dA), (165, dA), (166, dA), (167, dA), (168, dA), (169, dA), (170, dA), (171, dA), (172, dA), (173, dA), (174, dA), (175, dA), (176, dA), (177, dA), (178, dA), (179, dA), (180, dA), (181, dA), (182, dA), (183, dA), (184, dA), (185, dA), (186, dA), (187, dA), (188, dA), (189, dA), (190, dA), (191, dA), (192, dA), (193, dA), (194, dA), (195, dA), (196, dA), (197, dA), (198, dA), (199, dA), (200, dA), (201, dA), (202, dA), (203, dA), (204, dA), (205, dA), (206, dA), (207, dA), (208, dA), (209, dA), (210, dA), (211, dA), (212, dA), (213, dA), (214, dA), (215, dA), (216, dA), (217, dA), (218, dA), (219, dA), (220, dA)]) (fun x => []) (fun x => c.length - x.1) (fun x => x.1 ≤ c.length ∧ x.2 = (c.take x.1).any (sameQ s f p)) (0, false) ?start ?frame0 ?objs0 ?round)
              case start => exact ⟨Nat.zero_le _, rfl⟩
              case frame0 => ((try dsimp only [upds, z0, z1]); repeat (first | exact LeF.nil | refine LeF.co (k := ?_)))
              case objs0 => rfl
              case round =>
                rintro ⟨j, fd⟩ ⟨j1, j2⟩
                simp only at j1 j2
                dsimp only [upds, z0, z1]
                by_cases hj : j < c.length
                · have hqV := hcV _ (List.getElem_mem hj)
                  have hq4 := hcl _ (List.getElem_mem hj)
                  have hsn := any_snocC (p := sameQ s f p) hj
                  rw [← j2] at hsn
                  generalize hqe : c[j] = q at *
                  have hpq : decide ((p.length : Int) = (q.length : Int)) = decide (p.length = q.length) := decide_eq_decide.2 (by omega)
                  have hmin : (if (q.length : Int) < (p.length : Int) then (q.length : Int) else (p.length : Int)) = ((min p.length q.length : Nat) : Int) := by split <;> omega
                  have hs0 : decide (p.length = q.length) = smQ s f p q 0 := by unfold smQ; simp
                  have hend := smQ_end (s := s) (f := f) (p := p) (q := q) (i := min p.length q.length) (Nat.le_refl _)
                  generalize hmn : min p.length q.length = mn at *
                  (repeat' (first | ((first | apply WL.opN | apply WD.opN); exact yF; dsimp only [setD, z0, z1]) | refine WL.nil ?_ | refine WC.seqK fun Kx hK => ?_ | (refine hK _ _ ?_; clear hK) | refine WC.region ?_ | ((first | apply WL.opG | apply WD.op); (focus (first | exact wN | (apply SYG.yes; (exact wY); ((first | (refine SY.ixE1 (R := Verts) (_gR := inferInstance) elSi hj hqe (OpD.t rfl) (OpD.t rfl)) | (exact SY.eqlE hpq (OpD.t rfl) (OpD.t rfl)) | (exact SY.minEE hmin (OpD.t rfl) (OpD.t rfl)) | ((first | apply SY.move | apply SY.assign | apply SY.lss | apply SY.geq | apply SY.eql | apply SY.neq | apply SY.not) <;> (exact oD)) | (apply SY.len; (exact oD); (exact nD); (exact uD)) | fail); all_goals infer_instance)))); dsimp only [setD, z0, z1]) | (apply WC.condD; (exact oD); all_goals (intro h; try exact xD)) | refine WC.skip ?_ | refine WC.block ?_))
                  all_goals try (exfalso; first | contradiction | omega)
                  (refine WC.loopU (X := Nat × Bool) (fun x => [(25, dB x.2), (163, dI (x.1 : Int)), (26, dA), (27, dA), (28, dA), (164, dA), (165, dA), (166, dA), (167, dA), (168, dA), (169, dA), (170, dA), (171, dA), (172, dA), (173, dA), (174, dA), (175, dA), (176, dA), (177, dA), (178, dA), (179, dA), (180, dA), (181, dA), (182, dA), (183, dA), (184, dA), (185, dA), (186, dA), (187, dA), (188, dA), (189, dA), (190, dA), (191, dA), (192, dA), (193, dA), (194, dA), (195, dA), (196, dA), (197, dA), (198, dA), (199, dA), (200, dA), (201, dA), (202, dA), (203, dA), (204, dA), (205, dA), (206, dA), (207, dA), (208, dA), (209, dA), (210, dA), (211, dA), (212, dA), (213, dA), (214, dA), (215, dA)]) (fun x => []) (fun x => mn - x.1) (fun x => x.1 ≤ mn ∧ x.2 = smQ s f p q x.1) (0, decide (p.length = q.length)) ?start ?frame0 ?objs0 ?round)
                  case start => exact ⟨Nat.zero_le _, hs0⟩
                  case frame0 => ((try dsimp only [upds, z0, z1]); repeat (first | exact LeF.nil | refine LeF.co (k := ?_)))
                  case objs0 => rfl
                  case round =>
                    rintro ⟨l, sm⟩ ⟨l1, l2⟩
                    simp only at l1 l2
                    dsimp only [upds, z0, z1]
                    by_cases hl : l < mn
                    · have hlp : l < p.length := by omega
                      have hlq : l < q.length := by omega
                      obtain ⟨a, a1, a2, a3⟩ := K2.idx (hpV2 _ (List.getElem_mem hlp))
                      obtain ⟨b, b1, b2, b3⟩ := K1.idx (hqV _ (List.getElem_mem hlq))
                      have cI1 : Fn Tryz.prog 29 [dS Verts V2, dS RV p[l]] (dI (a : Int)) := by
                        have := idx_p V2 p[l]
                        rwa [show idxG (fun y => decide (p[l] = y)) 0 V2 = (a : Int) from a2] at this
                      have cI2 : Fn Tryz.prog 29 [dS Verts V, dS RV q[l]] (dI (b : Int)) := by
                        have := idx_p V q[l]
                        rwa [show idxG (fun y => decide (q[l] = y)) 0 V = (b : Int) from b2] at this
                      have cE := eqV_p (carB f p[l]) (carB s q[l])
                      have hss := smQ_snoc (s := s) (f := f) hlp hlq
                      rw [← l2] at hss
                      unfold prQ at hss
                      have ha0 : decide ((0 : Int) ≤ (a : Int)) = true := decide_eq_true (by omega)
                      have hb0 : decide ((0 : Int) ≤ (b : Int)) = true := decide_eq_true (by omega)
                      cases sm with
                      | false =>
                        rw [Bool.false_and] at hss
                        ((repeat' (first | ((first | apply WL.opN | apply WD.opN); exact yF; dsimp only [setD, z0, z1]) | refine WL.nil ?_ | refine WD.nil ?_ | refine WC.seqK fun Kx hK => ?_ | (refine hK _ _ ?_; clear hK) | refine WC.region ?_ | (apply WC.draw; kernel_rfl; kernel_rfl) | ((first | apply WL.opG | apply WD.op); (focus (first | exact wN | (apply SYG.yes; (exact wY); ((first | (exact SY.fldA strSb (OpD.t rfl) R3_agg rfl rfl) | (refine SY.ixE (R := RV) (_gR := inferInstance) elV hlp rfl (OpD.t rfl) (OpD.t rfl)) | (refine SY.ixE (R := RV) (_gR := inferInstance) elV hlq rfl (OpD.t rfl) (OpD.t rfl)) | (apply SY.call (cI1) Tryz.call29; exact ArgsD.cons (OpD.t rfl) (ArgsD.cons (OpD.t rfl) (ArgsD.nil))) | (apply SY.call (cI2) Tryz.call29; exact ArgsD.cons (OpD.t rfl) (ArgsD.cons (OpD.t rfl) (ArgsD.nil))) | ((first | apply SY.move | apply SY.assign | apply SY.lss | apply SY.geq | apply SY.eql | apply SY.neq | apply SY.not) <;> (exact oD)) | ((first | apply SY.add) <;> first | exact oD | omega) | (apply SY.pickF; (exact oD); (with_reducible rfl); (exact oD)) | fail); all_goals infer_instance)))); dsimp only [setD, z0, z1]) | (apply WC.condD; (exact oD); all_goals (intro h; try exact xD)) | refine WC.skip ?_ | refine WC.block ?_ | refine ThenD.n ?_)); all_goals (first | ((repeat clear hK); (repeat clear Kx))))
                        all_goals try (exfalso; first | contradiction | omega)
                        (refine ⟨(l + 1, false), ?_, by first | omega | (simp only; omega), rfl, ?_⟩; rotate_left; ((try dsimp only [upds, z0, z1]); repeat (first | exact LeF.nil | refine LeF.co (k := ?_))); (try dsimp only))
                        exact ⟨by omega, hss.symm⟩
                      | true =>
                        rw [Bool.true_and] at hss
                        by_cases hcol : p[l].1 = q[l].1
                        · rw [decide_eq_true hcol, Bool.true_and] at hss
                          have hcd : decide (p[l].1 = q[l].1) = true := decide_eq_true hcol
                          ((repeat' (first | ((first | apply WL.opN | apply WD.opN); exact yF; dsimp only [setD, z0, z1]) | refine WL.nil ?_ | refine WD.nil ?_ | refine WC.seqK fun Kx hK => ?_ | (refine hK _ _ ?_; clear hK) | refine WC.region ?_ | (apply WC.draw; kernel_rfl; kernel_rfl) | ((first | apply WL.opG | apply WD.op); (focus (first | exact wN | (apply SYG.yes; (exact wY); ((first | (exact SY.fldA strSb (OpD.t rfl) R3_agg rfl rfl) | (apply SY.load; exact tySi; exact OpD.t rfl) | (apply SY.load; exact tySS; exact OpD.t rfl) | (apply SY.load; exact tyI; exact OpD.t rfl) | (refine SY.ixE (R := RV) (_gR := inferInstance) elV hlp rfl (OpD.t rfl) (OpD.t rfl)) | (refine SY.ixE (R := RV) (_gR := inferInstance) elV hlq rfl (OpD.t rfl) (OpD.t rfl)) | (exact SY.fldA strVx (OpD.t rfl) le_RV rfl rfl) | (apply SY.call (cI1) Tryz.call29; exact ArgsD.cons (OpD.t rfl) (ArgsD.cons (OpD.t rfl) (ArgsD.nil))) | (apply SY.call (cI2) Tryz.call29; exact ArgsD.cons (OpD.t rfl) (ArgsD.cons (OpD.t rfl) (ArgsD.nil))) | (exact SY.geqE ha0 (OpD.t rfl) OpD.i) | (exact SY.geqE hb0 (OpD.t rfl) OpD.i) | (exact SY.eqlE hcd (OpD.t rfl) (OpD.t rfl)) | (refine SY.ixE1 (R := Verts) (_gR := inferInstance) elSi a1 a3 (OpD.t rfl) (OpD.t rfl)) | (refine SY.ixE1 (R := Verts) (_gR := inferInstance) elSi b1 b3 (OpD.t rfl) (OpD.t rfl)) | (apply SY.call (cE) Tryz.call26; exact ArgsD.cons (OpD.t rfl) (ArgsD.cons (OpD.t rfl) (ArgsD.nil))) | ((first | apply SY.move | apply SY.assign | apply SY.lss | apply SY.geq | apply SY.eql | apply SY.neq | apply SY.not) <;> (exact oD)) | ((first | apply SY.add) <;> first | exact oD | omega) | (apply SY.pickT; (exact oD); (with_reducible rfl); (exact oD)) | fail); all_goals infer_instance)))); dsimp only [setD, z0, z1]) | (apply WC.condD; (exact oD); all_goals (intro h; try exact xD)) | refine WC.skip ?_ | refine WC.block ?_ | refine ThenD.n ?_)); all_goals (first | ((repeat clear hK); (repeat clear Kx))))
                          all_goals try (exfalso; first | contradiction | omega)
                          (refine ⟨(l + 1, decide (carB f p[l] = carB s q[l])), ?_, by first | omega | (simp only; omega), rfl, ?_⟩; rotate_left; ((try dsimp only [upds, z0, z1]); repeat (first | exact LeF.nil | refine LeF.co (k := ?_))); (try dsimp only))
                          exact ⟨by omega, hss.symm⟩
                        · rw [decide_eq_false hcol, Bool.false_and] at hss
                          have hcd : decide (p[l].1 = q[l].1) = false := decide_eq_false hcol
                          ((repeat' (first | ((first | apply WL.opN | apply WD.opN); exact yF; dsimp only [setD, z0, z1]) | refine WL.nil ?_ | refine WD.nil ?_ | refine WC.seqK fun Kx hK => ?_ | (refine hK _ _ ?_; clear hK) | refine WC.region ?_ | (apply WC.draw; kernel_rfl; kernel_rfl) | ((first | apply WL.opG | apply WD.op); (focus (first | exact wN | (apply SYG.yes; (exact wY); ((first | (exact SY.fldA strSb (OpD.t rfl) R3_agg rfl rfl) | (apply SY.load; exact tyI; exact OpD.t rfl) | (refine SY.ixE (R := RV) (_gR := inferInstance) elV hlp rfl (OpD.t rfl) (OpD.t rfl)) | (refine SY.ixE (R := RV) (_gR := inferInstance) elV hlq rfl (OpD.t rfl) (OpD.t rfl)) | (exact SY.fldA strVx (OpD.t rfl) le_RV rfl rfl) | (apply SY.call (cI1) Tryz.call29; exact ArgsD.cons (OpD.t rfl) (ArgsD.cons (OpD.t rfl) (ArgsD.nil))) | (apply SY.call (cI2) Tryz.call29; exact ArgsD.cons (OpD.t rfl) (ArgsD.cons (OpD.t rfl) (ArgsD.nil))) | (exact SY.geqE ha0 (OpD.t rfl) OpD.i) | (exact SY.geqE hb0 (OpD.t rfl) OpD.i) | (exact SY.eqlE hcd (OpD.t rfl) (OpD.t rfl)) | ((first | apply SY.move | apply SY.assign | apply SY.lss | apply SY.geq | apply SY.eql | apply SY.neq | apply SY.not) <;> (exact oD)) | ((first | apply SY.add) <;> first | exact oD | omega) | (apply SY.pickT; (exact oD); (with_reducible rfl); (exact oD)) | (apply SY.pickF; (exact oD); (with_reducible rfl); (exact oD)) | fail); all_goals infer_instance)))); dsimp only [setD, z0, z1]) | (apply WC.condD; (exact oD); all_goals (intro h; try exact xD)) | refine WC.skip ?_ | refine WC.block ?_ | refine ThenD.n ?_)); all_goals (first | ((repeat clear hK); (repeat clear Kx))))
                          all_goals try (exfalso; first | contradiction | omega)
                          (refine ⟨(l + 1, false), ?_, by first | omega | (simp only; omega), rfl, ?_⟩; rotate_left; ((try dsimp only [upds, z0, z1]); repeat (first | exact LeF.nil | refine LeF.co (k := ?_))); (try dsimp only))
                          exact ⟨by omega, hss.symm⟩
                    · have hle : l = mn := by omega
                      rw [hle, hend] at l2
                      cases fd with
                      | true =>
                        rw [Bool.true_or] at hsn
                        ((repeat' (first | ((first | apply WL.opN | apply WD.opN); exact yF; dsimp only [setD, z0, z1]) | refine WL.nil ?_ | refine WC.seqK fun Kx hK => ?_ | (refine hK _ _ ?_; clear hK) | (refine Kont.skip ?_; clear hK) | refine WC.region ?_ | ((first | apply WL.opG | apply WD.op); (focus (first | exact wN | (apply SYG.yes; (exact wY); ((first | ((first | apply SY.move | apply SY.assign | apply SY.lss | apply SY.geq | apply SY.eql | apply SY.neq | apply SY.not) <;> (exact oD)) | ((first | apply SY.add) <;> first | exact oD | omega) | (apply SY.pickT; (exact oD); (with_reducible rfl); (exact oD)) | fail); all_goals infer_instance)))); dsimp only [setD, z0, z1]) | (apply WC.condD; (exact oD); all_goals (intro h; try exact xD)) | refine WC.exit ?_ | refine ThenD.n ?_)); all_goals (first | ((repeat clear hK); (repeat clear Kx))))
                        all_goals try (exfalso; first | contradiction | omega)
                        (refine ⟨(j + 1, true), ?_, by first | omega | (simp only; omega), rfl, ?_⟩; rotate_left; ((try dsimp only [upds, z0, z1]); repeat (first | exact LeF.nil | refine LeF.co (k := ?_))); (try dsimp only))
                        exact ⟨by omega, hsn.symm⟩
                      | false =>
                        rw [Bool.false_or, ← l2] at hsn
                        ((repeat' (first | ((first | apply WL.opN | apply WD.opN); exact yF; dsimp only [setD, z0, z1]) | refine WL.nil ?_ | refine WC.seqK fun Kx hK => ?_ | (refine hK _ _ ?_; clear hK) | (refine Kont.skip ?_; clear hK) | refine WC.region ?_ | ((first | apply WL.opG | apply WD.op); (focus (first | exact wN | (apply SYG.yes; (exact wY); ((first | ((first | apply SY.move | apply SY.assign | apply SY.lss | apply SY.geq | apply SY.eql | apply SY.neq | apply SY.not) <;> (exact oD)) | ((first | apply SY.add) <;> first | exact oD | omega) | (apply SY.pickF; (exact oD); (with_reducible rfl); (exact oD)) | fail); all_goals infer_instance)))); dsimp only [setD, z0, z1]) | (apply WC.condD; (exact oD); all_goals (intro h; try exact xD)) | refine WC.exit ?_ | refine ThenD.n ?_)); all_goals (first | ((repeat clear hK); (repeat clear Kx))))
                        all_goals try (exfalso; first | contradiction | omega)
                        (refine ⟨(j + 1, sm), ?_, by first | omega | (simp only; omega), rfl, ?_⟩; rotate_left; ((try dsimp only [upds, z0, z1]); repeat (first | exact LeF.nil | refine LeF.co (k := ?_))); (try dsimp only))
                        exact ⟨by omega, hsn.symm⟩
                · rw [List.take_of_length_le (by omega), hany] at j2
                  subst j2
                  ((repeat' (first | ((first | apply WL.opN | apply WD.opN); exact yF; dsimp only [setD, z0, z1]) | refine WL.nil ?_ | refine WC.seqK fun Kx hK => ?_ | (refine hK _ _ ?_; clear hK) | (refine Kont.skip ?_; clear hK) | refine WC.region ?_ | ((first | apply WL.opG | apply WD.op); (focus (first | exact wN | (apply SYG.yes; (exact wY); ((first | (exact SY.notT (OpD.t rfl)) | ((first | apply SY.move | apply SY.assign | apply SY.lss | apply SY.geq | apply SY.eql | apply SY.neq | apply SY.not) <;> (exact oD)) | ((first | apply SY.add) <;> first | exact oD | omega) | fail); all_goals infer_instance)))); dsimp only [setD, z0, z1]) | (apply WC.condF; (exact oD); (with_reducible rfl)) | (apply WC.condD; (exact oD); all_goals (intro h; try exact xD)) | refine WC.skip ?_ | refine WC.exit ?_ | refine ThenD.n ?_)); all_goals (first | ((repeat clear hK); (repeat clear Kx))))
                  all_goals try (exfalso; first | contradiction | omega)
                  (refine ⟨i2 + 1, ?_, by first | omega | (simp only; omega), rfl, ?_⟩; rotate_left; ((try dsimp only [upds, z0, z1]); repeat (first | exact LeF.nil | refine LeF.co (k := ?_))); (try dsimp only))
                  omega
            · ((repeat' (first | ((first | apply WL.opN | apply WD.opN); exact yF; dsimp only [setD, z0, z1]) | refine WL.nil ?_ | refine WC.seqK fun Kx hK => ?_ | (refine hK _ _ ?_; clear hK) | (refine Kont.skip ?_; clear hK) | refine WC.region ?_ | ((first | apply WL.opG | apply WD.op); (focus (first | exact wN | (apply SYG.yes; (exact wY); ((first | (apply SY.call (ca) Tryz.call13; (exact aD)) | ((first | apply SY.move | apply SY.assign | apply SY.lss | apply SY.geq | apply SY.eql | apply SY.neq | apply SY.not) <;> (exact oD)) | fail); all_goals infer_instance)))); dsimp only [setD, z0, z1]) | (apply WC.condD; (exact oD); all_goals (intro h; try exact xD)) | refine WC.ret ?_ | refine WC.exit ?_)); all_goals (first | ((repeat clear hK); (repeat clear Kx))))
              all_goals try (exfalso; first | contradiction | omega)
              all_goals (refine ⟨trivial, _, rfl, ?_⟩; exact fD)
  · rw [show gd29 s = false from decide_eq_false hg] at cg
    (refine Fn.intro1 Tryz.func5 rfl rfl ?_; simp only [Tryz.ntmps5, List.length_cons, List.length_nil, Nat.reduceAdd, Nat.reduceSub, List.replicate_succ, List.replicate_zero, List.cons_append, List.nil_append])
    ((repeat' (first | ((first | apply WL.opN | apply WD.opN); exact yF; dsimp only [setD, z0, z1]) | refine WL.nil ?_ | refine WC.seqK fun Kx hK => ?_ | (refine hK _ _ ?_; clear hK) | refine WC.region ?_ | ((first | apply WL.opG | apply WD.op); (focus (first | exact wN | (apply SYG.yes; (exact wY); ((first | (apply SY.call (cg) Tryz.call23; (exact aD)) | (apply SY.call (ca) Tryz.call13; (exact aD)) | ((first | apply SY.move | apply SY.assign | apply SY.lss | apply SY.geq | apply SY.eql | apply SY.neq | apply SY.not) <;> (exact oD)) | fail); all_goals infer_instance)))); dsimp only [setD, z0, z1]) | (apply WC.condNB; (exact oD); all_goals (intro h; try exact xD)) | refine WC.ret ?_ | refine ThenD.r ?_)); all_goals (first | ((repeat clear hK); (repeat clear Kx))))
    all_goals try (exfalso; first | contradiction | omega)
    all_goals (refine ⟨trivial, _, rfl, ?_⟩; exact fD)
end Go.Proofs.YtgppfikidagfpaaGreatDoor
