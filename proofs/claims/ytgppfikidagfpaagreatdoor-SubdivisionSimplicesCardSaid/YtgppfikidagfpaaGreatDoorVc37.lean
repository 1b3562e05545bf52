/-
  Part 37 of the texts that the claims of this seat lean on: walks of the program's functions by contracts over symbolic frames, and plain laws of what they compute. No condition.
-/
import Derived.Test.YtgppfikidagfpaaGreatDoorVc6
import Derived.Test.YtgppfikidagfpaaGreatDoorVc34
import Derived.Test.YtgppfikidagfpaaGreatDoorVc36
set_option linter.unusedVariables false
set_option linter.unusedSimpArgs false
set_option linter.unusedSectionVars false
namespace Go.Proofs.YtgppfikidagfpaaGreatDoor
open Go.RowKit
section
variable {P : Program} {Q : Post} {fr : List Dat} {hp : List HObj}
theorem WC.weakS {c : Code} {b : Nat} {T : TypeId} {ds ds' : List Dat} (hl : ds.length = ds'.length) (hle : ∀ (k : Nat) (d d' : Dat), ds[k]? = some d → ds'[k]? = some d' → d.le d') (h : WC P Q c fr (hStr b T ds' :: hp)) : WC P Q c fr (hStr b T ds :: hp) := WC.of fun P0 B w0 w a hh hf => by
  have hgr : w.grownBy w (hStr b T ds).blk := ⟨rfl, rfl, rfl, Nat.le_refl _, fun _ _ _ => rfl⟩
  obtain ⟨cs, c1, c2, c3, c4⟩ := hh.ok (hStr b T ds) (by simp)
  have hok : (hStr b T ds').ok (fun j => Imm P0 B (hStr b T ds :: hp) j ∧ j < w.heap.size) w := ⟨cs, c1, by omega, c3, fun j c e hc he => by
    have hj : j < ds.length := by have := (List.getElem?_eq_some_iff.1 he).1; omega
    exact e.bound (hle j ds[j] e (List.getElem?_eq_getElem hj) he _ _ _ (c4 j c ds[j] hc (List.getElem?_eq_getElem hj)))⟩
  exact h.on (hh.write hgr (.inl rfl) hok) (hf.mono fun d u hd => Hp.written (o := hStr b T ds) (o' := hStr b T ds') hgr (.inl rfl) hd)
end
theorem putS_len (d : List (Vx × List Vx)) (v : Vx) (c : List Vx) : (putS d v c).length ≤ d.length + 1 := by
  have h : ∀ d : List (Vx × List Vx), (insS d v c).length = d.length + 1 := by
    intro d
    induction d with
    | nil => rfl
    | cons p d ih =>
      obtain ⟨x, a⟩ := p
      unfold insS
      split
      · rfl
      · simp [ih]
  unfold putS
  split
  · omega
  · rw [h]; omega
def foldS (s : List Vx) (d : List (Vx × List Vx)) (t : List Vx) : List (Vx × List Vx) := t.foldl (fun d v => putS d v (carB s v)) d
theorem foldS_snoc {s : List Vx} {d : List (Vx × List Vx)} {t : List Vx} {j : Nat} (h : j < t.length) : foldS s d (t.take (j + 1)) = putS (foldS s d (t.take j)) t[j] (carB s t[j]) := by
  unfold foldS; rw [take_snoc' h, List.foldl_append]; rfl
theorem foldS_len (s : List Vx) : ∀ (t : List Vx) (d : List (Vx × List Vx)), (foldS s d t).length ≤ d.length + t.length
  | [], d => by simp [foldS]
  | v :: t, d => by
    have h1 := foldS_len s t (putS d v (carB s v))
    have h2 := putS_len d v (carB s v)
    show (foldS s (putS d v (carB s v)) t).length ≤ _
    simp only [List.length_cons]
    omega
theorem allR_snoc {s : List Vx} {F : Cx} {k : Nat} (h : k < F.length) : allR s (F.take (k + 1)) = (putC (allR s (F.take k)).1 F[k], foldS s (allR s (F.take k)).2 F[k]) := by
  unfold allR; rw [take_snoc' h, List.foldl_append]; rfl
theorem allR_len (s : List Vx) (F : Cx) (hF : ∀ t ∈ F, t.length ≤ 5) : ∀ k, k ≤ F.length → (allR s (F.take k)).1.length ≤ k ∧ (allR s (F.take k)).2.length ≤ 5 * k
  | 0, _ => by simp [allR]
  | k + 1, h => by
    obtain ⟨h1, h2⟩ := allR_len s F hF k (by omega)
    have hk : k < F.length := by omega
    rw [allR_snoc hk]
    have h3 := foldS_len s F[k] (allR s (F.take k)).2
    have h4 := hF _ (List.getElem_mem hk)
    have h5 := (putC_len (allR s (F.take k)).1 F[k]).2
    simp only
    omega
set_option linter.unusedSimpArgs false

set_option maxHeartbeats 2000000
set_option maxRecDepth 100000
abbrev simH (b2 b5 : Nat) (F : Cx) (d : List (Vx × List Vx)) : List HObj :=
  [hStr b5 41 [dS Simps F, dS Verts (d.map (·.1)), dS Simps (d.map (·.2))], hCell b2 41 3 true (dX (.agg #[.slice none 0 0, .slice none 0 0, .slice none 0 0]))]
set_option maxHeartbeats 16000000 in
theorem simplexR_c (s : List Vx) : Fn Tryz.prog 19 [dS Verts s] (dT [dS SubR (subR s).1, dI (subR s).2]) := by
  have c1 := chk_c s
  have c2 := diff_c s
  refine Fn.introC2 tySb Tryz.func19 rfl rfl ?_
  simp only [Tryz.ntmps19, List.length_cons, List.length_nil, Nat.reduceAdd, Nat.reduceSub, List.replicate_succ, List.replicate_zero, List.cons_append, List.nil_append]
  by_cases h0 : chkV s = 0
  · by_cases h1 : diffV s = true
    · rw [h0] at c1
      rw [h1] at c2
      by_cases h5 : 5 < s.length
      · rw [show subR s = (([], [], []), 5) by unfold subR; rw [if_neg (by rw [h0]; decide), if_neg (by rw [h1]; decide), if_pos h5]]
        ((repeat' (first | ((first | apply WL.opN | apply WD.opN); exact yF; dsimp only [setD, z0, z1]) | refine WL.nil ?_ | refine WC.seqK fun Kx hK => ?_ | (refine hK _ _ ?_; clear hK) | refine WC.region ?_ |  (refine WL.alloc (dst := some 2) tzSb (shape_X3 rfl rfl rfl) fun b2 => ?_; dsimp only [setD, z0, z1]) |  (refine WL.storeF tySb rfl (OpD.t rfl) shape_R3 ?_; dsimp only [setD, z0, z1]) | ((first | apply WL.opN | apply WD.opN); (focus ((first | (apply SY.call (c1) Tryz.call12; (exact aD)) | (apply SY.call (c2) Tryz.call66; (exact aD)) | (exact SY.notT (OpD.t rfl)) | (exact SY.mkSn) | ((first | apply SY.move | apply SY.assign | apply SY.lss | apply SY.gtr | apply SY.neq | apply SY.not) <;> (exact oD)) | (apply SY.len; (exact oD); (exact nD); (exact uD)) | fail); all_goals infer_instance)); dsimp only [setD, z0, z1]) | (apply WC.condF; (exact oD); (with_reducible rfl)) | (apply WC.condD; (exact oD); all_goals (intro h; try exact xD)) | (apply WC.condN; (exact oD); all_goals (intro h; try exact xD)) | refine WC.skip ?_ | refine WC.ret ?_ | refine WC.block ?_ | refine ThenD.r ?_ | refine InBlockD.r ?_)); all_goals (first | ((repeat clear hK); (repeat clear Kx))))
        all_goals try (exfalso; first | contradiction | omega)
        (refine ⟨trivial, ⟨_, rfl, ?_⟩, _, rfl, ?_⟩ <;> exact fD)
      · have e : subR s = (((allR s (facB s)).1, (allR s (facB s)).2.map (·.1), (allR s (facB s)).2.map (·.2)), 0) := by unfold subR; rw [if_neg (by rw [h0]; decide), if_neg (by rw [h1]; decide), if_neg h5]
        rw [e]
        have hl0 := (chkV_zero.1 h0).1
        have hm : s.length ≤ 5 := by omega
        have hpos := Nat.two_pow_pos s.length
        have hp : 2 ^ s.length ≤ 32 := Nat.pow_le_pow_right (n := 2) (by decide) hm
        have hshl := ishl_pow ⟨s.length, by omega⟩
        simp only at hshl
        have c3 := ordered29_c (2 ^ s.length - 1) (2 ^ s.length - 1) (Nat.le_refl _) (by omega)
        rw [show ((2 ^ s.length - 1 : Nat) : Int) = ((2 ^ s.length : Nat) : Int) - 1 by omega] at c3
        have hcnt := ord_cnt ⟨2 ^ s.length - 1, by omega⟩
        simp only at hcnt
        have hfl : ∀ t ∈ facB s, t.length ≤ 5 := fun t ht => by rw [facB_len ht]; exact hm
        have hal := fun k h => allR_len s (facB s) hfl k h
        have hfe : (facB s).length = (ordP (2 ^ s.length - 1)).length := by unfold facB; rw [List.length_map]
        have hfg : ∀ (k : Nat) (h : k < (facB s).length) (h' : k < (ordP (2 ^ s.length - 1)).length), (facB s)[k] = placeB s (ordP (2 ^ s.length - 1))[k] := fun k h h' => by simp [facB]
        have hpl : ∀ (k : Nat) (h' : k < (ordP (2 ^ s.length - 1)).length), Fn Tryz.prog 68 [dS Verts s, dS Ints (intsB (ordP (2 ^ s.length - 1))[k])] (dS Verts (placeB s (ordP (2 ^ s.length - 1))[k])) := fun k h' => place29_c s _ (by omega) fun b hb => by have := (part_at hm (List.getElem_mem h')).1 b hb; omega
        have hat : ∀ t ∈ facB s, ∀ v ∈ t, ∃ m : Nat, v.2 = (m : Int) ∧ m < 1048576 := fun t ht v hv => by
          obtain ⟨bl, hbl, rfl⟩ := List.mem_map.1 ht
          obtain ⟨i, hi, e⟩ := List.mem_iff_getElem.1 hv
          have hi' : i < s.length := by rw [placeB_len] at hi; exact hi
          have h1 := ((part_at hm hbl).2 i hi').2
          rw [placeB_get' hi hi'] at e
          exact ⟨snapB bl i 0, by rw [← e], by omega⟩
        generalize facB s = F at *
        generalize ordP (2 ^ s.length - 1) = L at *
        (repeat' (first | ((first | apply WL.opN | apply WD.opN); exact yF; dsimp only [setD, z0, z1]) | refine WL.nil ?_ | refine WC.seqK fun Kx hK => ?_ | (refine hK _ _ ?_; clear hK) | refine WC.region ?_ |  (refine WL.alloc (dst := some 2) tzSb (shape_X3 rfl rfl rfl) fun b2 => ?_; dsimp only [setD, z0, z1]) |  (refine WL.allocS (dst := some 5) (zs := [.slice none 0 0, .slice none 0 0, .slice none 0 0]) tzSb (by decide) (by simp [Value.oneCell']) fun b5 => ?_; dsimp only [setD, z0, z1, List.map_cons, List.map_nil]) | ((first | apply WL.opN | apply WD.opN); (focus ((first | (apply SY.call (c1) Tryz.call12; (exact aD)) | (apply SY.call (c2) Tryz.call66; (exact aD)) | (exact SY.notT (OpD.t rfl)) | (exact SY.shlE hshl (by omega) OpD.i (OpD.t rfl)) | (apply SY.call (c3) Tryz.call62; (exact aD)) | ((first | apply SY.move | apply SY.assign | apply SY.lss | apply SY.gtr | apply SY.neq | apply SY.not) <;> (exact oD)) | ((first | apply SY.add | apply SY.sub) <;> first | exact oD | omega) | (apply SY.len; (exact oD); (exact nD); (exact uD)) | fail); all_goals infer_instance)); dsimp only [setD, z0, z1]) | (apply WC.condF; (exact oD); (with_reducible rfl)) | (apply WC.condD; (exact oD); all_goals (intro h; try exact xD)) | (apply WC.condN; (exact oD); all_goals (intro h; try exact xD)) | refine WC.skip ?_ | refine WC.block ?_))
        all_goals try (exfalso; first | contradiction | omega)
        refine WC.weakS (ds' := [dS Simps [], dS Verts [], dS Simps []]) rfl (fun k d d' hd hd' => by
          match k, hd, hd' with
          | 0, hd, hd' => cases hd; cases hd'; exact Dat.le_nil
          | 1, hd, hd' => cases hd; cases hd'; exact Dat.le_nilK (by decide)
          | 2, hd, hd' => cases hd; cases hd'; exact Dat.le_nil) ?_
        (refine WC.loopU (X := Nat) (fun k => [(7, dI (k : Int)), (8, dA), (9, dA), (31, dA), (32, dA), (33, dA), (34, dA), (35, dA), (36, dA), (37, dA), (38, dA), (39, dA), (40, dA), (41, dA), (42, dA), (43, dA), (44, dA), (45, dA), (46, dA), (47, dA), (48, dA), (49, dA), (50, dA), (51, dA), (52, dA), (53, dA), (54, dA), (55, dA), (56, dA), (57, dA), (58, dA), (59, dA), (60, dA), (61, dA), (62, dA), (63, dA), (64, dA), (65, dA), (66, dA), (67, dA), (68, dA)]) (fun k => simH b2 b5 (allR s (F.take k)).1 (allR s (F.take k)).2) (fun k => F.length - k) (fun k => k ≤ F.length) 0 ?start ?frame0 ?objs0 ?round)
        case start => exact Nat.zero_le _
        case frame0 => ((try dsimp only [upds, z0, z1]); repeat (first | exact LeF.nil | refine LeF.co (k := ?_)))
        case objs0 => rfl
        case round =>
          rintro k k1
          dsimp only [upds, z0, z1]
          obtain ⟨a1, a2⟩ := hal k k1
          have hasn := fun h => allR_snoc (s := s) (F := F) (k := k) h
          generalize hA : allR s (F.take k) = A at *
          obtain ⟨X, d⟩ := A
          simp only at a1 a2 hasn
          by_cases hk : k < F.length
          · have hkL : k < L.length := by omega
            have hkm : k < (L.map intsB).length := by rw [List.length_map]; exact hkL
            have hkv : (L.map intsB)[k] = intsB L[k] := by simp
            have cP := hpl k hkL
            have hge := hfg k hk hkL
            have hat1 := hat _ (List.getElem_mem hk)
            have hfl1 := hfl _ (List.getElem_mem hk)
            have hs1 := hasn hk
            rw [hge] at hat1 hfl1 hs1
            generalize placeB s L[k] = t at *
            have cU := putC_c X t (by omega)
            (repeat' (first | ((first | apply WL.opN | apply WD.opN); exact yF; dsimp only [setD, z0, z1]) | refine WL.nil ?_ | refine WC.seqK fun Kx hK => ?_ | (refine hK _ _ ?_; clear hK) | refine WC.region ?_ |  (refine WL.storeS (k := 0) tySS (OpD.t rfl) (OpD.t rfl) shape_A (by simp) ?_; dsimp only [setD, z0, z1]) | ((first | apply WL.opN | apply WD.opN); (focus ((first | (apply SY.len; exact OpD.t rfl; exact len_A; exact elRo.unt) | (refine SY.ixE1 (R := Ints) (_gR := inferInstance) elRo hkm hkv (OpD.t rfl) (OpD.t rfl)) | (apply SY.load; exact tyIn; exact OpD.t rfl) | (apply SY.call (cP) Tryz.call68; (exact aD)) | (refine SY.fldS strSb (OpD.t rfl) (by decide)) | (refine SY.fldS strCx (OpD.t rfl) (by decide)) | (refine SY.loadS tySS (OpD.t rfl) (.head _) rfl) | (apply SY.call (cU) Tryz.call71; (exact aD)) | ((first | apply SY.move | apply SY.assign | apply SY.lss | apply SY.gtr | apply SY.neq | apply SY.not) <;> (exact oD)) | fail); all_goals infer_instance)); dsimp only [setD, z0, z1]) | (apply WC.condD; (exact oD); all_goals (intro h; try exact xD)) | refine WC.skip ?_ | refine WC.block ?_))
            all_goals try (exfalso; first | contradiction | omega)
            (refine WC.loopU (X := Nat) (fun j => [(9, dI (j : Int)), (50, dA), (51, dA), (52, dA), (53, dA), (54, dA), (55, dA), (56, dA), (57, dA), (58, dA), (59, dA), (60, dA), (61, dA), (62, dA), (63, dA), (64, dA), (65, dA), (66, dA), (67, dA), (68, dA)]) (fun j => simH b2 b5 (putC X t) (foldS s d (t.take j))) (fun j => t.length - j) (fun j => j ≤ t.length) 0 ?start ?frame0 ?objs0 ?round)
            case start => exact Nat.zero_le _
            case frame0 => ((try dsimp only [upds, z0, z1]); repeat (first | exact LeF.nil | refine LeF.co (k := ?_)))
            case objs0 => rfl
            case round =>
              rintro j j1
              dsimp only [upds, z0, z1]
              have hdl := foldS_len s (t.take j) d
              have hdl2 : (foldS s d (t.take j)).length ≤ 100000 := by
                rw [List.length_take] at hdl
                omega
              have hsn := fun h => foldS_snoc (s := s) (d := d) (t := t) (j := j) h
              have hend : ¬ j < t.length → foldS s d (t.take j) = foldS s d t := fun h => by rw [List.take_of_length_le (by omega)]
              generalize foldS s d (t.take j) = D at *
              by_cases hj : j < t.length
              · obtain ⟨m, m1, m2⟩ := hat1 _ (List.getElem_mem hj)
                have cA := at29_c s m (by omega) m2
                rw [← m1] at cA
                have hcar : atB s m = carB s t[j] := by unfold carB; rw [m1, Int.toNat_natCast]
                rw [hcar] at cA
                have cp := put29_c (putC X t) D t[j] (carB s t[j]) hdl2
                rw [← hsn hj] at cp
                clear hdl
                ((repeat' (first |  (apply WC.drawTail 13; kernel_rfl; kernel_rfl; simp only [List.take_succ_cons, List.take_zero, List.drop_succ_cons, List.drop_zero]) | ((first | apply WL.opN | apply WD.opN); exact yF; dsimp only [setD, z0, z1]) | refine WL.nil ?_ | refine WD.nil ?_ | refine WC.seqK fun Kx hK => ?_ | (refine hK _ _ ?_; clear hK) | refine WC.region ?_ |  (refine WL.storeW tySb (OpD.t rfl) (OpD.tle rfl R3_agg) rfl rfl ?_; dsimp only [setD, z0, z1]) | ((first | apply WL.opN | apply WD.opN); (focus ((first | (refine SY.loadW tySb (OpD.t rfl) (.head _) (by decide) rfl) | (refine SY.ixE (R := RV) (_gR := inferInstance) elV hj rfl (OpD.t rfl) (OpD.t rfl)) | (exact SY.fldA strVx (OpD.t rfl) le_RV rfl rfl) | (apply SY.call (cA) Tryz.call28; exact ArgsD.cons (OpD.t rfl) (ArgsD.cons (OpD.t rfl) (ArgsD.nil))) | (apply SY.call cp Tryz.call72; exact ArgsD.cons (OpD.tle rfl agg_R3) (ArgsD.cons (OpD.t rfl) (ArgsD.cons (OpD.t rfl) ArgsD.nil))) | ((first | apply SY.move | apply SY.assign | apply SY.lss | apply SY.gtr | apply SY.neq | apply SY.not) <;> (exact oD)) | ((first | apply SY.add | apply SY.sub) <;> first | exact oD | omega) | (apply SY.len; (exact oD); (exact nD); (exact uD)) | fail); all_goals infer_instance)); dsimp only [setD, z0, z1]) | (apply WC.condD; (exact oD); all_goals (intro h; try exact xD)) | refine WC.skip ?_ | refine WC.block ?_ | refine ThenD.n ?_)); all_goals (first | ((repeat clear hK); (repeat clear Kx))))
                all_goals try (exfalso; first | contradiction | omega)
                (refine ⟨j + 1, ?_, by first | omega | (simp only; omega), rfl, ?_⟩; rotate_left; ((try dsimp only [upds, z0, z1]); repeat (first | exact LeF.nil | refine LeF.co (k := ?_))); (try dsimp only))
                omega
              · ((repeat' (first | ((first | apply WL.opN | apply WD.opN); exact yF; dsimp only [setD, z0, z1]) | refine WL.nil ?_ | refine WC.seqK fun Kx hK => ?_ | (refine hK _ _ ?_; clear hK) | (refine Kont.skip ?_; clear hK) | refine WC.region ?_ | ((first | apply WL.opN | apply WD.opN); (focus ((first | ((first | apply SY.move | apply SY.assign | apply SY.lss | apply SY.gtr | apply SY.neq | apply SY.not) <;> (exact oD)) | ((first | apply SY.add | apply SY.sub) <;> first | exact oD | omega) | (apply SY.len; (exact oD); (exact nD); (exact uD)) | fail); all_goals infer_instance)); dsimp only [setD, z0, z1]) | (apply WC.condD; (exact oD); all_goals (intro h; try exact xD)) | refine WC.exit ?_ | refine ThenD.n ?_)); all_goals (first | ((repeat clear hK); (repeat clear Kx))))
                all_goals try (exfalso; first | contradiction | omega)
                have hD := hend hj
                subst hD
                (refine ⟨k + 1 , ?_, by first | omega | (simp only; omega), by ((try simp only);  (rw [hs1])), ?_⟩; rotate_left; ((try dsimp only [upds, z0, z1]); repeat (first | exact LeF.nil | refine LeF.co (k := ?_))); (try dsimp only))
                omega
          · have hkm : ¬ k < (L.map intsB).length := by rw [List.length_map]; omega
            rw [List.take_of_length_le (by omega)] at hA
            ((repeat' (first | ((first | apply WL.opN | apply WD.opN); exact yF; dsimp only [setD, z0, z1]) | refine WL.nil ?_ | refine WC.seqK fun Kx hK => ?_ | (refine hK _ _ ?_; clear hK) | (refine Kont.skip ?_; clear hK) | refine WC.region ?_ |  (refine WL.storeF2 (d := dS SubR (X, d.map (·.1), d.map (·.2))) tySb rfl (OpD.tle rfl agg_R3) shape_R3 ?_; dsimp only [setD, z0, z1]) | ((first | apply WL.opN | apply WD.opN); (focus ((first | (apply SY.len; exact OpD.t rfl; exact len_A; exact elRo.unt) | (refine SY.loadW tySb (OpD.t rfl) (.head _) (by decide) rfl) | ((first | apply SY.move | apply SY.assign | apply SY.lss | apply SY.gtr | apply SY.neq | apply SY.not) <;> (exact oD)) | fail); all_goals infer_instance)); dsimp only [setD, z0, z1]) | (apply WC.condD; (exact oD); all_goals (intro h; try exact xD)) | refine WC.ret ?_ | refine WC.exit ?_)); all_goals (first | ((repeat clear hK); (repeat clear Kx))))
            all_goals try (exfalso; first | contradiction | omega)
            (refine ⟨trivial, ⟨_, rfl, ?_⟩, _, rfl, ?_⟩ <;> (first | exact fD | refine FinD.s ?_))
            simp only [hA]
    · have h1 : diffV s = false := by simpa using h1
      rw [show subR s = (([], [], []), 3) by unfold subR; rw [if_neg (by rw [h0]; decide), if_pos h1]]
      rw [h0] at c1
      rw [h1] at c2
      ((repeat' (first | ((first | apply WL.opN | apply WD.opN); exact yF; dsimp only [setD, z0, z1]) | refine WL.nil ?_ | refine WC.seqK fun Kx hK => ?_ | (refine hK _ _ ?_; clear hK) | refine WC.region ?_ |  (refine WL.alloc (dst := some 2) tzSb (shape_X3 rfl rfl rfl) fun b2 => ?_; dsimp only [setD, z0, z1]) |  (refine WL.storeF tySb rfl (OpD.t rfl) shape_R3 ?_; dsimp only [setD, z0, z1]) | ((first | apply WL.opN | apply WD.opN); (focus ((first | (apply SY.call (c1) Tryz.call12; (exact aD)) | (apply SY.call (c2) Tryz.call66; (exact aD)) | (exact SY.mkSn) | ((first | apply SY.move | apply SY.assign | apply SY.lss | apply SY.gtr | apply SY.neq | apply SY.not) <;> (exact oD)) | fail); all_goals infer_instance)); dsimp only [setD, z0, z1]) | (apply WC.condN; (exact oD); all_goals (intro h; try exact xD)) | (apply WC.condNB; (exact oD); all_goals (intro h; try exact xD)) | refine WC.skip ?_ | refine WC.ret ?_ | refine WC.block ?_ | refine ThenD.r ?_ | refine InBlockD.r ?_)); all_goals (first | ((repeat clear hK); (repeat clear Kx))))
      all_goals try (exfalso; first | contradiction | omega)
      (refine ⟨trivial, ⟨_, rfl, ?_⟩, _, rfl, ?_⟩ <;> exact fD)
  · rw [show subR s = (([], [], []), chkV s) by unfold subR; rw [if_pos h0]]
    ((repeat' (first | ((first | apply WL.opN | apply WD.opN); exact yF; dsimp only [setD, z0, z1]) | refine WL.nil ?_ | refine WC.seqK fun Kx hK => ?_ | (refine hK _ _ ?_; clear hK) | refine WC.region ?_ |  (refine WL.alloc (dst := some 2) tzSb (shape_X3 rfl rfl rfl) fun b2 => ?_; dsimp only [setD, z0, z1]) |  (refine WL.storeF tySb rfl (OpD.t rfl) shape_R3 ?_; dsimp only [setD, z0, z1]) | ((first | apply WL.opN | apply WD.opN); (focus ((first | (apply SY.call (c1) Tryz.call12; (exact aD)) | (exact SY.mkSn) | ((first | apply SY.move | apply SY.assign | apply SY.lss | apply SY.gtr | apply SY.neq | apply SY.not) <;> (exact oD)) | fail); all_goals infer_instance)); dsimp only [setD, z0, z1]) | (apply WC.condN; (exact oD); all_goals (intro h; try exact xD)) | refine WC.ret ?_ | refine ThenD.r ?_)); all_goals (first | ((repeat clear hK); (repeat clear Kx))))
    all_goals first | (refine ⟨trivial, ⟨_, rfl, ?_⟩, _, rfl, ?_⟩ <;> exact fD) | (exfalso; first | contradiction | omega)
end Go.Proofs.YtgppfikidagfpaaGreatDoor
namespace Go.Proofs.YtgppfikidagfpaaGreatDoor
open Go.RowKit
section
variable {P : Program} {ops : Array Oper} {hp : List HObj} {fr : List Dat} {dst : Option Tmp} {ty : TypeId} {ps : String} {af : Array Edge} {g : Option (Nat × Bool)} {x y : Operand} {T T2 : TypeId} {p q : Int} {c : Bool}
theorem SY.gtrI (h : decide (q < p) = c) (hx : OpD fr x (dI p)) (hy : OpD fr y (dI q)) : SY P ops hp { dst := dst, op := .binOp .gtr T x y T2, type := ty, pos := ps, after := af, guard := g } fr (dB c) := h ▸ SY.gtr hx hy
theorem SY.eqlI (h : decide (p = q) = c) (hx : OpD fr x (dI p)) (hy : OpD fr y (dI q)) : SY P ops hp { dst := dst, op := .binOp .eql T x y T2, type := ty, pos := ps, after := af, guard := g } fr (dB c) := h ▸ SY.eql hx hy
theorem SY.neqJ (h : decide (p = q) = c) (hx : OpD fr x (dI p)) (hy : OpD fr y (dI q)) : SY P ops hp { dst := dst, op := .binOp .neq T x y T2, type := ty, pos := ps, after := af, guard := g } fr (dB !c) := h ▸ SY.neq hx hy
end
set_option linter.unusedSimpArgs false

set_option maxHeartbeats 2000000
set_option maxRecDepth 100000
theorem sameV_r (a : List Vx) : Fn Tryz.prog 21 [dS Verts a, dS Verts a] (dB true) := by
  have := same_c a a
  rwa [decide_eq_true (cmpL_eq.2 rfl)] at this
set_option maxHeartbeats 16000000 in
theorem simsNo_p (s : List Vx) (bl : List Int) (n : Int) (b1 b2 b3 b4 b5 : Bool) (h1 : decide ((s.length : Int) ≤ 10) = b1) (h2 : decide ((12 : Int) < (bl.length : Int)) = b2) (h3 : decide ((s.length : Int) = 5) = b3) (h4 : decide (chkV s = 0) = b4) (h5 : decide (n = 5) = b5)
    (hb : (b1 && (!b2 && !(b3 && (b4 && !b5)))) = false) : Fn Tryz.prog 3 [dS Verts s, dS Ints bl, dI n] (dB true) := by
  have ca := awake29_p
  have c1 := few_c s
  have c2 := chk_c s
  rw [h1] at c1
  clear h1
  cases b1 with
  | false =>
    clear hb
    (refine Fn.intro1 Tryz.func3 rfl rfl ?_; simp only [Tryz.ntmps3, List.length_cons, List.length_nil, Nat.reduceAdd, Nat.reduceSub, List.replicate_succ, List.replicate_zero, List.cons_append, List.nil_append])
    ((repeat' (first | (apply WL.opN; exact yF; dsimp only [setD, z0, z1]) | refine WL.nil ?_ | refine WC.seqK fun Kx hK => ?_ | (refine hK _ _ ?_; clear hK) | refine WC.region ?_ |  (apply WL.opG; (focus (apply SYG.no; exact want_undef rfl rfl rfl)); dsimp only [setD, z0, z1]) | (apply WL.opG; (focus (first | exact wN | (apply SYG.yes; (exact wY); ((first | (apply SY.call (c1) Tryz.call11; (exact aD)) | (apply SY.call (ca) Tryz.call13; (exact aD)) | ((first | apply SY.move | apply SY.assign | apply SY.gtr | apply SY.eql | apply SY.neq | apply SY.not) <;> (exact oD)) | (apply SY.pickT; (exact oD); (with_reducible rfl); (exact oD)) | fail); all_goals infer_instance)))); dsimp only [setD, z0, z1]) | ((first | refine WL.caseP rfl rfl rfl (fun h => ?_) (fun h => ?_) | refine WL.caseN rfl rfl rfl (fun h => ?_) (fun h => ?_) | refine WL.caseB rfl rfl rfl (fun h => ?_) (fun h => ?_)) <;> (first | (exfalso; first | omega | contradiction) | (dsimp only [z0, z1]))) | (apply WC.condT; (exact oD); (with_reducible rfl)) | refine WC.ret ?_ | refine ThenD.r ?_)); all_goals (first | ((repeat clear hK); (repeat clear Kx))))
    all_goals try (exfalso; first | contradiction | omega)
    all_goals (refine ⟨trivial, _, rfl, ?_⟩; exact fD)
  | true =>
    cases b2 with
    | true =>
      clear hb
      (refine Fn.intro1 Tryz.func3 rfl rfl ?_; simp only [Tryz.ntmps3, List.length_cons, List.length_nil, Nat.reduceAdd, Nat.reduceSub, List.replicate_succ, List.replicate_zero, List.cons_append, List.nil_append])
      ((repeat' (first | (apply WL.opN; exact yF; dsimp only [setD, z0, z1]) | refine WL.nil ?_ | refine WC.seqK fun Kx hK => ?_ | (refine hK _ _ ?_; clear hK) | refine WC.region ?_ |  (apply WL.opG; (focus (apply SYG.no; exact want_undef rfl rfl rfl)); dsimp only [setD, z0, z1]) | (apply WL.opG; (focus (first | exact wN | (apply SYG.yes; (exact wY); ((first | (exact SY.notT (OpD.t rfl)) | (exact SY.gtrI h2 (OpD.t rfl) OpD.i) | (apply SY.call (c1) Tryz.call11; (exact aD)) | (apply SY.call (ca) Tryz.call13; (exact aD)) | ((first | apply SY.move | apply SY.assign | apply SY.gtr | apply SY.eql | apply SY.neq | apply SY.not) <;> (exact oD)) | (apply SY.len; (exact oD); (exact nD); (exact uD)) | (apply SY.pickT; (exact oD); (with_reducible rfl); (exact oD)) | (apply SY.pickF; (exact oD); (with_reducible rfl); (exact oD)) | fail); all_goals infer_instance)))); dsimp only [setD, z0, z1]) | (apply WC.condT; (exact oD); (with_reducible rfl)) | refine WC.ret ?_ | refine ThenD.r ?_)); all_goals (first | ((repeat clear hK); (repeat clear Kx))))
      all_goals try (exfalso; first | contradiction | omega)
      all_goals (refine ⟨trivial, _, rfl, ?_⟩; exact fD)
    | false =>
      cases b3 with
      | false => cases hb
      | true =>
        cases b4 with
        | false => cases hb
        | true =>
          cases b5 with
          | true => cases hb
          | false =>
            clear hb
            (refine Fn.intro1 Tryz.func3 rfl rfl ?_; simp only [Tryz.ntmps3, List.length_cons, List.length_nil, Nat.reduceAdd, Nat.reduceSub, List.replicate_succ, List.replicate_zero, List.cons_append, List.nil_append])
            ((repeat' (first | (apply WL.opN; exact yF; dsimp only [setD, z0, z1]) | refine WL.nil ?_ | refine WC.seqK fun Kx hK => ?_ | (refine hK _ _ ?_; clear hK) | refine WC.region ?_ | (apply WL.opG; (focus (first | exact wN | (apply SYG.yes; (exact wY); ((first | (exact SY.notT (OpD.t rfl)) | (exact SY.gtrI h2 (OpD.t rfl) OpD.i) | (exact SY.eqlI h3 (OpD.t rfl) OpD.i) | (exact SY.eqlI h4 (OpD.t rfl) OpD.i) | (exact SY.neqJ h5 (OpD.t rfl) OpD.i) | (apply SY.call (c1) Tryz.call11; (exact aD)) | (apply SY.call (c2) Tryz.call12; (exact aD)) | (apply SY.call (ca) Tryz.call13; (exact aD)) | ((first | apply SY.move | apply SY.assign | apply SY.gtr | apply SY.eql | apply SY.neq | apply SY.not) <;> (exact oD)) | (apply SY.len; (exact oD); (exact nD); (exact uD)) | (apply SY.pickT; (exact oD); (with_reducible rfl); (exact oD)) | (apply SY.pickF; (exact oD); (with_reducible rfl); (exact oD)) | fail); all_goals infer_instance)))); dsimp only [setD, z0, z1]) | (apply WC.condNB; (exact oD); all_goals (intro h; try exact xD)) | refine WC.ret ?_ | refine ThenD.r ?_)); all_goals (first | ((repeat clear hK); (repeat clear Kx))))
            all_goals try (exfalso; first | contradiction | omega)
            all_goals (refine ⟨trivial, _, rfl, ?_⟩; exact fD)
set_option maxHeartbeats 16000000 in
theorem simsYes_p (s : List Vx) (bl : List Int) (n : Int) (b3 b4 b5 : Bool) (h1 : decide ((s.length : Int) ≤ 10) = true) (h2 : decide ((12 : Int) < (bl.length : Int)) = false) (h3 : decide ((s.length : Int) = 5) = b3) (h4 : decide (chkV s = 0) = b4) (h5 : decide (n = 5) = b5)
    (hb : (b3 && (b4 && !b5)) = false) : Fn Tryz.prog 3 [dS Verts s, dS Ints bl, dI n] (dB true) := by
  have ca := awake29_p
  have c1 := few_c s
  have c2 := chk_c s
  rw [h1] at c1
  clear h1
  have k1 := partitions_p n
  have k2 := partR_c n
  have k3 := facetP_p s bl
  have k4 := facetR_c s bl
  have k5 := simplex29_p s
  have k6 := simplexR_c s
  rw [facet_same] at k3
  rw [sub_same] at k6
  generalize partP n = p1 at *
  generalize facetR s bl = p2 at *
  generalize subP s = p3 at *
  obtain ⟨P1, e1⟩ := p1
  obtain ⟨P2, e2⟩ := p2
  obtain ⟨⟨F, V, C⟩, e3⟩ := p3
  simp only at k1 k2 k3 k4 k5 k6
  cases b3 with
  | false =>
    clear hb
    (refine Fn.intro1 Tryz.func3 rfl rfl ?_; simp only [Tryz.ntmps3, List.length_cons, List.length_nil, Nat.reduceAdd, Nat.reduceSub, List.replicate_succ, List.replicate_zero, List.cons_append, List.nil_append])
    ((repeat' (first |  (refine WC.freezeC (t := 15) rfl ?_; dsimp only [z0, z1]) |  (refine WC.freezeC (t := 17) rfl ?_; dsimp only [z0, z1]) | (apply WL.opN; exact yF; dsimp only [setD, z0, z1]) | refine WL.nil ?_ | refine WC.seqK fun Kx hK => ?_ | (refine hK _ _ ?_; clear hK) | refine WC.region ?_ |  (refine WL.alloc tzSb (shape_X3 rfl rfl rfl) fun b4 => ?_; dsimp only [setD, z0, z1]) |  (refine WL.storeK tySb (OpD.t rfl) (OpD.t rfl) shape_R3 ?_; dsimp only [setD, z0, z1]) | (apply WL.opG; (focus (first | exact wN | (apply SYG.yes; (exact wY); ((first | (exact SY.notT (OpD.t rfl)) | (exact SY.gtrI h2 (OpD.t rfl) OpD.i) | (exact SY.eqlI h3 (OpD.t rfl) OpD.i) | (exact SY.eqlI h4 (OpD.t rfl) OpD.i) | (apply SY.call (c1) Tryz.call11; (exact aD)) | (apply SY.call (c2) Tryz.call12; (exact aD)) | (apply SY.call (k1) Tryz.call14; (exact aD)) | (apply SY.call (k2) Tryz.call15; (exact aD)) | (apply SY.call (k3) Tryz.call16; (exact aD)) | (apply SY.call (k4) Tryz.call17; (exact aD)) | (apply SY.call (k5) Tryz.call18; (exact aD)) | (apply SY.call (k6) Tryz.call19; (exact aD)) | (apply SY.load; exact tySb; exact OpD.t rfl) | (apply SY.call (sameB_c _) Tryz.call20; (exact aD)) | (apply SY.call (sameV_r _) Tryz.call21; (exact aD)) | (apply SY.call (same29_c _ _ _) Tryz.call22; (exact aD)) | (exact SY.eqlT rfl (OpD.t rfl) (OpD.t rfl)) | (apply SY.call (ca) Tryz.call13; (exact aD)) | ((first | apply SY.move | apply SY.assign | apply SY.gtr | apply SY.eql | apply SY.neq | apply SY.not) <;> (exact oD)) | (apply SY.len; (exact oD); (exact nD); (exact uD)) | (apply SY.pickT; (exact oD); (with_reducible rfl); (exact oD)) | (apply SY.pickF; (exact oD); (with_reducible rfl); (exact oD)) | (apply SY.extract; (exact oD); rfl) | fail); all_goals infer_instance)))); dsimp only [setD, z0, z1]) | (apply WC.condF; (exact oD); (with_reducible rfl)) | refine WC.skip ?_ | refine WC.ret ?_)); all_goals (first | ((repeat clear hK); (repeat clear Kx))))
    all_goals try (exfalso; first | contradiction | omega)
    all_goals (refine ⟨trivial, _, rfl, ?_⟩; exact fD)
  | true =>
    cases b4 with
    | false =>
      clear hb
      (refine Fn.intro1 Tryz.func3 rfl rfl ?_; simp only [Tryz.ntmps3, List.length_cons, List.length_nil, Nat.reduceAdd, Nat.reduceSub, List.replicate_succ, List.replicate_zero, List.cons_append, List.nil_append])
      ((repeat' (first |  (refine WC.freezeC (t := 15) rfl ?_; dsimp only [z0, z1]) |  (refine WC.freezeC (t := 17) rfl ?_; dsimp only [z0, z1]) | (apply WL.opN; exact yF; dsimp only [setD, z0, z1]) | refine WL.nil ?_ | refine WC.seqK fun Kx hK => ?_ | (refine hK _ _ ?_; clear hK) | refine WC.region ?_ |  (refine WL.alloc tzSb (shape_X3 rfl rfl rfl) fun b4 => ?_; dsimp only [setD, z0, z1]) |  (refine WL.storeK tySb (OpD.t rfl) (OpD.t rfl) shape_R3 ?_; dsimp only [setD, z0, z1]) | (apply WL.opG; (focus (first | exact wN | (apply SYG.yes; (exact wY); ((first | (exact SY.notT (OpD.t rfl)) | (exact SY.gtrI h2 (OpD.t rfl) OpD.i) | (exact SY.eqlI h3 (OpD.t rfl) OpD.i) | (exact SY.eqlI h4 (OpD.t rfl) OpD.i) | (apply SY.call (c1) Tryz.call11; (exact aD)) | (apply SY.call (c2) Tryz.call12; (exact aD)) | (apply SY.call (k1) Tryz.call14; (exact aD)) | (apply SY.call (k2) Tryz.call15; (exact aD)) | (apply SY.call (k3) Tryz.call16; (exact aD)) | (apply SY.call (k4) Tryz.call17; (exact aD)) | (apply SY.call (k5) Tryz.call18; (exact aD)) | (apply SY.call (k6) Tryz.call19; (exact aD)) | (apply SY.load; exact tySb; exact OpD.t rfl) | (apply SY.call (sameB_c _) Tryz.call20; (exact aD)) | (apply SY.call (sameV_r _) Tryz.call21; (exact aD)) | (apply SY.call (same29_c _ _ _) Tryz.call22; (exact aD)) | (exact SY.eqlT rfl (OpD.t rfl) (OpD.t rfl)) | (apply SY.call (ca) Tryz.call13; (exact aD)) | ((first | apply SY.move | apply SY.assign | apply SY.gtr | apply SY.eql | apply SY.neq | apply SY.not) <;> (exact oD)) | (apply SY.len; (exact oD); (exact nD); (exact uD)) | (apply SY.pickT; (exact oD); (with_reducible rfl); (exact oD)) | (apply SY.pickF; (exact oD); (with_reducible rfl); (exact oD)) | (apply SY.extract; (exact oD); rfl) | fail); all_goals infer_instance)))); dsimp only [setD, z0, z1]) | (apply WC.condF; (exact oD); (with_reducible rfl)) | refine WC.skip ?_ | refine WC.ret ?_)); all_goals (first | ((repeat clear hK); (repeat clear Kx))))
      all_goals try (exfalso; first | contradiction | omega)
      all_goals (refine ⟨trivial, _, rfl, ?_⟩; exact fD)
    | true =>
      cases b5 with
      | false => cases hb
      | true =>
        clear hb
        (refine Fn.intro1 Tryz.func3 rfl rfl ?_; simp only [Tryz.ntmps3, List.length_cons, List.length_nil, Nat.reduceAdd, Nat.reduceSub, List.replicate_succ, List.replicate_zero, List.cons_append, List.nil_append])
        ((repeat' (first |  (refine WC.freezeC (t := 15) rfl ?_; dsimp only [z0, z1]) |  (refine WC.freezeC (t := 17) rfl ?_; dsimp only [z0, z1]) | (apply WL.opN; exact yF; dsimp only [setD, z0, z1]) | refine WL.nil ?_ | refine WC.seqK fun Kx hK => ?_ | (refine hK _ _ ?_; clear hK) | refine WC.region ?_ |  (refine WL.alloc tzSb (shape_X3 rfl rfl rfl) fun b4 => ?_; dsimp only [setD, z0, z1]) |  (refine WL.storeK tySb (OpD.t rfl) (OpD.t rfl) shape_R3 ?_; dsimp only [setD, z0, z1]) | (apply WL.opG; (focus (first | exact wN | (apply SYG.yes; (exact wY); ((first | (exact SY.notT (OpD.t rfl)) | (exact SY.gtrI h2 (OpD.t rfl) OpD.i) | (exact SY.eqlI h3 (OpD.t rfl) OpD.i) | (exact SY.eqlI h4 (OpD.t rfl) OpD.i) | (exact SY.neqJ h5 (OpD.t rfl) OpD.i) | (apply SY.call (c1) Tryz.call11; (exact aD)) | (apply SY.call (c2) Tryz.call12; (exact aD)) | (apply SY.call (k1) Tryz.call14; (exact aD)) | (apply SY.call (k2) Tryz.call15; (exact aD)) | (apply SY.call (k3) Tryz.call16; (exact aD)) | (apply SY.call (k4) Tryz.call17; (exact aD)) | (apply SY.call (k5) Tryz.call18; (exact aD)) | (apply SY.call (k6) Tryz.call19; (exact aD)) | (apply SY.load; exact tySb; exact OpD.t rfl) | (apply SY.call (sameB_c _) Tryz.call20; (exact aD)) | (apply SY.call (sameV_r _) Tryz.call21; (exact aD)) | (apply SY.call (same29_c _ _ _) Tryz.call22; (exact aD)) | (exact SY.eqlT rfl (OpD.t rfl) (OpD.t rfl)) | (apply SY.call (ca) Tryz.call13; (exact aD)) | ((first | apply SY.move | apply SY.assign | apply SY.gtr | apply SY.eql | apply SY.neq | apply SY.not) <;> (exact oD)) | (apply SY.len; (exact oD); (exact nD); (exact uD)) | (apply SY.pickT; (exact oD); (with_reducible rfl); (exact oD)) | (apply SY.pickF; (exact oD); (with_reducible rfl); (exact oD)) | (apply SY.extract; (exact oD); rfl) | fail); all_goals infer_instance)))); dsimp only [setD, z0, z1]) | (apply WC.condNB; (exact oD); all_goals (intro h; try exact xD)) | refine WC.skip ?_ | refine WC.ret ?_)); all_goals (first | ((repeat clear hK); (repeat clear Kx))))
        all_goals try (exfalso; first | contradiction | omega)
        all_goals (refine ⟨trivial, _, rfl, ?_⟩; exact fD)
theorem sims29_p (s : List Vx) (bl : List Int) (n : Int) : Fn Tryz.prog 3 [dS Verts s, dS Ints bl, dI n] (dB true) := by
  by_cases h : (decide ((s.length : Int) ≤ 10) && (!decide ((12 : Int) < (bl.length : Int)) && !(decide ((s.length : Int) = 5) && (decide (chkV s = 0) && !decide (n = 5))))) = true
  · have hh := h
    rw [Bool.and_eq_true, Bool.and_eq_true] at hh
    obtain ⟨q1, q2, q3⟩ := hh
    exact simsYes_p s bl n _ _ _ q1 (by simpa using q2) rfl rfl rfl (by rw [Bool.not_eq_true'] at q3; exact q3)
  · exact simsNo_p s bl n _ _ _ _ _ rfl rfl rfl rfl rfl (by rw [Bool.not_eq_true] at h; exact h)
end Go.Proofs.YtgppfikidagfpaaGreatDoor
