/- Part 42: walks by contracts, and plain laws. -/
import Derived.Test.YtmcllakdbgnfiaaGreatDoorVg41
set_option linter.unusedVariables false
set_option linter.unusedSimpArgs false
set_option linter.unusedSectionVars false
set_option maxRecDepth 100000
set_option maxHeartbeats 4000000
namespace Go.Proofs.YtmcllakdbgnfiaaGreatDoor
section
def carW (fs : Cx) (v : Vx) : List Vx := fs.getD v.2.toNat []
theorem foldl_congr' {α β : Type} {f g : β -> α -> β} : ∀ (L : List α) (b : β), (∀ b, ∀ x ∈ L, f b x = g b x) -> L.foldl f b = L.foldl g b
 | [], _, _ => rfl
 | x :: L, b, h => by
  rw [List.foldl_cons, List.foldl_cons, h b x (by simp)]
  exact foldl_congr' L _ fun b y hy => h b y (by simp [hy])
theorem foldW_is {fs : Cx} {s : List Vx} {car : Vx -> List Vx} {t : List Vx} (h : ∀ v ∈ t, car (labW fs s v) = carB s v) (d : List (Vx × List Vx)) : foldW fs s d t = (t.map (labW fs s)).foldl (fun d u => putS d u (car u)) d := by
 unfold foldW
 rw [List.foldl_map]
 exact foldl_congr' t d fun d v hv => by rw [h v hv]
theorem simW_is {fs : Cx} {s : List Vx} {car : Vx -> List Vx} : ∀ (F : Cx) (A : Cx × List (Vx × List Vx)), (∀ t ∈ F, ∀ v ∈ t, car (labW fs s v) = carB s v) ->
  simW fs s A F = ((F.map fun t => t.map (labW fs s)).foldl putC A.1, (F.map fun t => t.map (labW fs s)).flatten.foldl (fun d u => putS d u (car u)) A.2)
 | [], A, _ => rfl
 | t :: F, A, h => by
  have e : simW fs s A (t :: F) = simW fs s (stepW fs s A t) F := rfl
  rw [e, simW_is F (stepW fs s A t) fun u hu => h u (by simp [hu])]
  unfold stepW
  rw [foldW_is (h t (by simp)), List.map_cons, List.foldl_cons, List.flatten_cons, List.foldl_append]
theorem whlW_go {fs : Cx} {car : Vx -> List Vx} : ∀ (l : Cx) (A : Cx × List (Vx × List Vx)), (∀ s ∈ l, ∀ t ∈ ZCO s, ∀ v ∈ t, car (labW fs s v) = carB s v) ->
  l.foldl (fun A s => simW fs s A (ZCO s)) A = ((ZBB fs l).foldl putC A.1, (ZBB fs l).flatten.foldl (fun d u => putS d u (car u)) A.2)
 | [], A, _ => rfl
 | s :: l, A, h => by
  rw [List.foldl_cons, whlW_go l _ fun t ht => h t (by simp [ht]), simW_is _ _ (h s (by simp))]
  unfold ZBB
  rw [List.flatMap_cons, List.foldl_append, List.flatten_append, List.foldl_append]
theorem sub_pow5 {s : List Vx} (h : s.length <= 5) (k : Nat) : (ZX k s).length <= 32 := Nat.le_trans (ZBj _ _) (Nat.pow_le_pow_right (by decide) h : 2 ^ s.length <= 2 ^ 5)
theorem facR_len {l : Cx} (h5 : ∀ s ∈ l, s.length <= 5) : (Z3 l).length <= 160 * l.length := by
 have h1 := foldF_len (ZCN l) []
 have h2 : (ZCN l).length <= 160 * l.length := ZBq facV 160 l fun s hs => by
  have h3 := ZBq (fun k => ZX (k + 1) s) 32 (List.range s.length) fun k _ => sub_pow5 (h5 s hs) _
  rw [List.length_range] at h3
  have := h5 s hs
  unfold facV
  omega
 unfold Z3
 simp only [List.length_nil] at h1
 omega
theorem chrE_whl {l : Cx} : chrE l = if ZAn l ≠ 0 then ZAn l else whlE l := rfl
theorem whl_facts {l : Cx} (he : whlE l = 0) : (∀ s ∈ l, Zy s = true) /\ (∀ s ∈ l, s.length <= 5) /\ sumU l <= 4096 := by
 unfold whlE at he
 by_cases hd : l.all Zy = false
 ·rw [if_pos hd] at he; exact absurd he (by decide)
 rw [if_neg hd] at he
 by_cases ha : l.any (fun s => decide (5 < s.length)) = true
 ·rw [if_pos ha] at he; exact absurd he (by decide)
 rw [if_neg ha] at he
 by_cases hs : 4096 < sumU l
 ·rw [if_pos hs] at he; exact absurd he (by decide)
 refine ⟨fun s hs => List.all_eq_true.1 (by simpa using hd) s hs, fun s hs => Classical.byContradiction fun q => ha (List.any_eq_true.2 ⟨s, hs, decide_eq_true (by omega)⟩), by omega⟩
section
variable {l : Cx}
theorem car_lab (hg : ∀ s ∈ l, Zn s = 0) (h5 : ∀ s ∈ l, s.length <= 5) {s : List Vx} (hs : s ∈ l) {t : List Vx} (ht : t ∈ ZCO s) {v : Vx} (hv : v ∈ t) : carW (Z3 l) (labW (Z3 l) s v) = carB s v := by
 obtain ⟨bl, hbl, rfl⟩ := List.mem_map.1 ht
 obtain ⟨i, hi, rfl⟩ := List.mem_iff_getElem.1 hv
 have hi' : i < s.length := by rw [Zj] at hi; exact hi
 have hf := ZBJ.2 (ZCd hg h5 hs hbl hi')
 obtain ⟨j, h1, h2, h3⟩ := ZBn _ 0 _ hf
 rw [ZAr]
 unfold carW labW carB
 simp only [Int.toNat_natCast]
 rw [h2, Nat.zero_add, Int.toNat_natCast, List.getD_eq_getElem?_getD, List.getElem?_eq_getElem h1, Option.getD_some, h3]
theorem whl_is (hg : ∀ s ∈ l, Zn s = 0) (h5 : ∀ s ∈ l, s.length <= 5) (hG : GoodX l) : whlW (Z3 l) l = (maxC (ZBB (Z3 l) l), (ZBF [] (ZBB (Z3 l) l).flatten).map fun u => (u, carW (Z3 l) u)) := by
 unfold whlW
 rw [whlW_go (car := carW (Z3 l)) l _ fun s hs t ht v hv => car_lab hg h5 hs ht hv]
 have h1 : (ZBB (Z3 l) l).filter (topC (ZBB (Z3 l) l)) = ZBB (Z3 l) l := List.filter_eq_self.2 fun f hf => by
  unfold topC
  rw [facW_free hg h5 hG hf]
  obtain ⟨s, hs, bl, _, e⟩ := ZCP hg h5 hf
  have := (ZM.1 (hg s hs)).1
  have hl : f.length = s.length := by rw [e, List.length_map, Zj]
  rw [decide_eq_true (by omega)]; rfl
 have h2 := allS (carW (Z3 l)) (ZBB (Z3 l) l).flatten []
 rw [List.map_nil] at h2
 unfold maxC
 rw [h1, h2]
theorem facW_chk (hg : ∀ s ∈ l, Zn s = 0) (h5 : ∀ s ∈ l, s.length <= 5) (hd : ∀ s ∈ l, Zy s = true) (hl : l.length <= 4096) {f : List Vx} (hf : f ∈ ZBB (Z3 l) l) : Zn f = 0 := by
 obtain ⟨s, hs, bl, hbl, e⟩ := ZCP hg h5 hf
 obtain ⟨h1, h2, h3, h4⟩ := ZM.1 (hg s hs)
 have hlen : f.length = s.length := by rw [e, List.length_map, Zj]
 have hasc := ascC_of h4 (hd s hs)
 refine ZM.2 ⟨by omega, by omega, fun v hv => ?_, ascC_asc ?_⟩
 ·obtain ⟨i, hi, rfl⟩ := facW_vert hg h5 hs hbl e hv
  have hr := h3 _ (List.getElem_mem hi)
  obtain ⟨j, j1, j2, _⟩ := ZBn _ 0 _ (ZBJ.2 (ZCd hg h5 hs hbl hi))
  have hfl := facR_len h5
  unfold rngV at hr ⊢
  simp only [Bool.and_eq_true, decide_eq_true_eq] at hr ⊢
  rw [j2]
  exact ⟨⟨hr.1.1, by omega⟩, by omega⟩
 ·have hm : (f.map fun v => v.1) = s.map fun v => v.1 := by
   rw [e, List.map_map]
   exact place_color s bl
  have h6 : (s.map fun v => v.1).Pairwise (· < ·) := List.pairwise_map.2 hasc
  rw [<- hm] at h6
  exact List.pairwise_map.1 h6
end
open Go.RowKit in
theorem chromaticP_p (l : Cx) : Fn Tryz.prog 9 [dS CpxL l] (dT [dS SubR (chrR l).1, dI (chrR l).2]) := by
 by_cases he : chrE l = 0
 ·have h0 : ZAn l = 0 := Classical.byContradiction fun q => by rw [chrE_whl, if_pos q] at he; exact q he
  have hw : whlE l = 0 := by rw [chrE_whl, if_neg (by omega)] at he; exact he
  have hG := Zg.1 h0
  have hg := hG.2.2.1
  obtain ⟨hd, h5, hsum⟩ := whl_facts hw
  have hF := chrF_same hg h5
  have hFl : (ZBB (Z3 l) l).length <= 4096 := by rw [<- hF, ZBy h5]; exact hsum
  have hOf : ofP (chrF (ZBZ l) l) = (maxC (ZBB (Z3 l) l), 0) := by
   rw [hF]
   unfold ofP
   rw [if_neg (by omega), if_neg (fun q => q (errC_ok fun f hf => facW_chk hg h5 hd hG.1 hf))]
  have hfl := facR_len h5
  have hR : chrR l = ((maxC (ZBB (Z3 l) l), ZBF [] (ZBB (Z3 l) l).flatten, (ZBF [] (ZBB (Z3 l) l).flatten).map (carW (Z3 l))), 0) := by
   unfold chrR whlR
   rw [if_neg (by omega), if_neg (by omega), whl_is hg h5 hG]
   rw [List.map_map, List.map_map]
   congr 1
   congr 1
   congr 1
   exact List.map_id' _
  rw [hR]
  have := chr29_p l _ (carW (Z3 l)) he hOf (fun v => by
   unfold carW
   rw [List.getD_eq_getElem?_getD]
   cases h : (Z3 l)[v.2.toNat]? with
   | none => simp
   | some x =>
    obtain ⟨s, hs, _, hsub⟩ := ZA4.1 (ZBJ.1 (List.mem_of_getElem? h))
    have := hsub.length_le
    have := h5 s hs
    simp only [Option.getD_some]
    omega) (fun s hs bl hbl i h => by
   have hi : i < s.length := by rw [ZAp] at h; exact h
   have hf := ZCd hg h5 hs hbl hi
   have hsn := ((ZA2 (h5 s hs) hbl).2 i hi).1
   obtain ⟨j, j1, j2, j3⟩ := ZBn _ 0 _ (ZBJ.2 hf)
   rw [ZCM h hi]
   unfold chrL
   rw [hsn, num_same hg hf, j2, Nat.zero_add]
   refine ⟨⟨?_, ?_⟩, ?_⟩
   ·exact (ok_vx (hg s hs) _ (List.getElem_mem hi)).1
   ·show is64 _
    unfold is64
    have := hG.1
    simp only
    omega
   ·unfold carW
    simp only [Int.toNat_natCast]
    rw [List.getD_eq_getElem?_getD, List.getElem?_eq_getElem j1, Option.getD_some, j3])
  rw [hF] at this
  exact this
 ·have hR : chrR l = (([], [], []), chrE l) := by
   unfold chrR whlR
   rw [chrE_whl] at he ⊢
   by_cases h0 : ZAn l ≠ 0
   ·rw [if_pos h0, if_pos h0]
   ·rw [if_neg h0] at he ⊢
    rw [if_neg h0, if_pos he]
  rw [hR]
  exact chrBad_p l he
end
section
open Go.RowKit
section
variable {P : Program} {f : FuncId} {fn : Func} {c : Code} {ds : List Dat} {hp1 : List HObj} {K : Dat -> List HObj -> Prop}
def finCC1 (t : Nat) (n : Nat) (agg : Bool) (K : Dat -> List HObj -> Prop) (hp : List HObj) : Z1 := fun e f q => (match e with | .normal | .ret => True | _ => False) /\ ∃ d hp2, f[t]? = some (dP n agg d) /\ q = hp2 ++ hp /\ K d hp2
theorem CallC.introC1 {t : Tmp} {T : TypeId} {n : Nat} {agg : Bool} (T' : TyI P T n agg) (hf : P.funcs[f]? = some fn) (hb : fn.body = some c) (hr : fn.results = #[.cell t T])
  (h : ∀ hp, WC P (finCC1 t n agg K hp) c (ds ++ List.replicate (fn.ntmps - ds.length) (dX undef)) (hp1 ++ hp)) : CallC P f ds hp1 K := ⟨fun P0 B w0 hp vs W hh hl hv => by
 refine calls_of_wp hf hb ?_
 have hf0 := ZAg (m := fn.ntmps - ds.length) hl hv
 have hsz : vs.toArray.size = ds.length := by simp [hl]
 rw [hsz]
 refine Code.wp_mono (fun e a' w' ⟨f', p', q, hh', hf'⟩ => ?_) ((h hp).on hh hf0)
 obtain ⟨hx, d', hp2, hd', rfl, hk'⟩ := q
 obtain ⟨b, off, u, h1, h2, h3⟩ := hf'.rd t _ hd'
 cases e with
 | normal => exact ⟨hf'.defers, _, ZCg T' hr h1 h2, _, _, hp2, rfl, hk', hh', h3⟩
 | ret => exact ⟨hf'.defers, _, ZCg T' hr h1 h2, _, _, hp2, rfl, hk', hh', h3⟩
 | _ => exact hx.elim⟩
end
section
variable {P : Program} {ops : Array Oper} {hp : List HObj} {fr : List Dat} {dst : Option Tmp} {ty : TypeId} {ps : String} {af : Array Edge} {g : Option (Nat × Bool)} {T e' : TypeId} {v : Value} {α : Type} {R : Rel α} {xs : List α}
theorem SY.loadRE {_gR : Good R} {x : Operand} {k : Nat} {y : α} (T' : TyI P T 1 false) (hx : OpD fr x (dX (elemPtr v k))) (hm : ZU v e' R xs ∈ hp) (hk : k < xs.length) (hy : xs[k] = y) :
  SY P ops hp { dst := dst, op := .load T x, type := ty, pos := ps, after := af, guard := g } fr (dS R y) := hy ▸ SY.loadR T' hx hm hk
end
theorem shape_A3 {a b c : Dat} : (dAgg [a, b, c]).Shape 3 true := shape_Agg (by decide) rfl

end
section
open Go.RowKit
theorem perm_done {a b c d e f : HObj} {hp : List HObj} : (a :: b :: c :: d :: e :: f :: hp).Perm (c :: b :: d :: e :: f :: a :: hp) :=
 perm_v3.trans (.cons c (.cons b ((List.Perm.swap d a _).trans (.cons d ((List.Perm.swap e a _).trans (.cons e (List.Perm.swap f a _)))))))

set_option maxHeartbeats 16000000 in
theorem done_o (bs bm : Nat) (F C : Cx) (L : List Vx) (car : Vx -> List Vx) (M : CarM) (hOf : ofP F = (C, 0)) (hB : Bld L car M) (hl : M.length <= 100000) (hcl : ∀ p ∈ M, p.2.2.length <= 1000) :
  CallC Tryz.prog 40 ([dX (.pointer (some ⟨bs, 0, none⟩))] ++ ([] : List Value).map dX) [Zm bs 74 [dS Zq F, dX (.map (some bm))], hMC bm kvV M, ZAL ZF M]
   (fun d hp2 => ∃ vC, d = dT [dAgg [dS Zq C, dS ZF (ZBF [] L), dX vC], dI 0] /\ hp2 = [ZU vC 28 ZF ((ZBF [] L).map car)]) := by
 have hO := of27_p F
 rw [hOf] at hO
 refine ZCb ZB8 Tryz.func40 rfl rfl fun hp => ?_
 simp only [Tryz.ntmps40, List.length_cons, List.length_nil, List.length_append, List.length_map, Nat.reduceAdd, Nat.reduceSub, List.replicate_succ, List.replicate_zero, List.cons_append, List.nil_append, List.map_cons, List.map_nil, List.append_assoc]
 (repeat' (first | ((first | apply WL.opN | apply WD.opN); exact yF; dsimp only [ZB, z0, z1]) | refine WL.nil ?_ | refine ZA fun Kx hK => ?_ | (refine hK _ _ ?_; clear hK) | refine WC.region ?_ |  (refine WL.alloc (dst := some 2) tzSb (ZAS rfl rfl rfl) fun b2 => ?_; dsimp only [ZB, z0, z1]) |  (refine WL.allocS (dst := some 6) (zs := [.slice none 0 0, .slice none 0 0, .slice none 0 0]) tzSb (by decide) (by simp [Value.oneCell']) fun b6 => ?_; dsimp only [ZB, z0, z1, List.map_cons, List.map_nil]) |  (refine WL.storeW ZB8 (OpD.t rfl) (OpD.t rfl) rfl rfl ?_; dsimp only [ZB]) |  (refine WL.rangeM mapT_car (OpD.t rfl) (.tail _ (.tail _ (.tail _ (.head _)))) fun r => ?_; dsimp only [ZB, z0, z1]) | (apply WL.alloc; (first | exact tzV | exact tzC); (first | exact ZW rfl | exact Zs | exact Zi rfl); (intro _; dsimp only [ZB, z0, z1])) | (apply WL.storeF; (exact tD); rfl; (exact oD); (exact hD); dsimp only [ZB, z0, z1]) | ((first | apply WL.opN | apply WD.opN); (focus ((first | (exact ZBI (OpD.t rfl)) | (refine Z7 strB (OpD.t rfl) (by decide)) | (refine Zp tySS (OpD.t rfl) (.tail _ (.head _)) rfl) | (apply SY.call (hO) Tryz.call52; (exact aD)) | (exact SY.mkS0 (OpD.t rfl)) | (refine Zp tyCar (OpD.t rfl) (.tail _ (.tail _ (.head _))) rfl) | ((first | apply SY.move | apply SY.assign | apply SY.lss | apply SY.neq) <;> (exact oD)) | (apply SY.extract; (exact oD); rfl) | fail); all_goals infer_instance)); dsimp only [ZB, z0, z1]) | (apply ZH; (exact oD); all_goals (intro h; try exact xD)) | refine WC.skip ?_ | refine WC.block ?_))
 all_goals try (exfalso; first | contradiction | omega)
 refine ZBh 45 2 (by decide) RV ?_
 refine WC.perm (List.Perm.swap _ _ _) ?_
 (refine WC.loopU (X := Array Nat × Value × List Vx) (fun x => [(7, dA), (29, dA), (30, dA), (31, dA), (32, dA), (33, dA), (34, dA), (35, dA), (36, dA), (37, dA), (38, dA)]) (fun x => (hIt bm r M.length x.1 :: ZS x.2.1 45 2 RV x.2.2 :: Zm b6 30 [dS Zq C, dX x.2.1, dX (.slice none 0 0)] :: ZO b2 30 3 true (dX (.agg #[.slice none 0 0, .slice none 0 0, .slice none 0 0])) :: Zm bs 74 [dS Zq F, dX (.map (some bm))] :: hMC bm kvV M :: ZAL ZF M :: hp)) (fun x => M.length - x.1.size) (fun x => x.1.toList.Nodup /\ (∀ j ∈ x.1.toList, j < M.length) /\ x.2.2 = x.1.toList.map (keyAt M)) (#[], .slice none 0 0, []) ?start ?frame0 ?objs0 ?round)
 case start => exact ⟨by simp, by simp, by simp⟩
 case frame0 => ((try dsimp only [ZL, z0, z1]); repeat (first | exact LeF.nil | refine ZD (k := ?_)))
 case objs0 => rfl
 case round =>
  rintro ⟨seen, v, xs⟩ ⟨q1, q2, q3⟩
  simp only at q1 q2 q3
  dsimp only [ZL, z0, z1]
  have hsz : seen.size <= M.length := by
   have := nat_nodup q1 q2
   simpa using this
  have hxl : xs.length <= 100000 := by rw [q3, List.length_map]; simp; omega
  refine ZA fun Kx hK => ?_
  refine WC.region ?_
  refine WL.nextM (OpD.t rfl) (.tail _ (.tail _ (.tail _ (.tail _ (.head _))))) (fun hall => ?_) (fun j hj hns => ?_)
  ·dsimp only [ZB, z0, z1]
   obtain ⟨k1, k2⟩ := keys_seen hB.nodup q1 q2 (fun j hj => by simpa using hall j hj)
   rw [<- q3] at k1 k2
   refine WL.drop ?_
   (repeat' (first | ((first | apply WL.opN | apply WD.opN); exact yF; dsimp only [ZB, z0, z1]) | refine WL.nil ?_ | refine ZA fun Kx hK => ?_ | (refine hK _ _ ?_; clear hK) | (refine Kont.skip ?_; clear hK) | refine WC.region ?_ |  (refine WL.sortVG Tryz.call80 done_x (OpD.t rfl) (by omega) fun ys hperm hsort => ?_; refine WL.perm (List.Perm.swap _ _ _) (WL.keepSK (k := 1) rfl (ZAk 28 ZF ?_)); dsimp only [ZB, z0, z1]) | ((first | apply WL.opN | apply WD.opN); (focus ((first | (refine Z7 ZBY (OpD.t rfl) (by decide)) | (refine Zp tySi (OpD.t rfl) (.tail _ (.head _)) rfl) | (apply SY.len; (exact oD); (exact nD); (exact uD)) | (apply SY.extract; (exact oD); rfl) | fail); all_goals infer_instance)); dsimp only [ZB, z0, z1]) | (apply Zr; (exact oD); (with_reducible rfl)) | refine WC.exit ?_ | refine WC.block ?_))
   have hys := sort_keys hperm hsort k1 fun v => (k2 v).trans (hB.mem v)
   have hyl : ys.length <= 100000 := by rw [hperm.length_eq]; exact hxl
   subst hys
   generalize hvs : ZBF [] L = vs at *
   (refine WC.loopU (X := Nat × Value) (fun x => [(45, dI (x.1 : Int)), (9, dA), (46, dA), (47, dA), (48, dA), (49, dA), (50, dA), (51, dA), (52, dA), (53, dA), (54, dA), (55, dA), (56, dA), (57, dA), (58, dA), (59, dA), (60, dA), (61, dA)]) (fun x => (ZU x.2 28 ZF ((vs.take x.1).map car) :: Zm b6 30 [dS Zq C, dS ZF vs, dX x.2] :: ZO b2 30 3 true (dX (.agg #[.slice none 0 0, .slice none 0 0, .slice none 0 0])) :: Zm bs 74 [dS Zq F, dX (.map (some bm))] :: hMC bm kvV M :: ZAL ZF M :: hp)) (fun x => vs.length - x.1) (fun x => x.1 <= vs.length) (0, .slice none 0 0) ?start ?frame0 ?objs0 ?round)
   case start => exact Nat.zero_le _
   case frame0 => ((try dsimp only [ZL, z0, z1]); repeat (first | exact LeF.nil | refine ZD (k := ?_)))
   case objs0 => rfl
   case round =>
    rintro ⟨i, u⟩ g1
    simp only at g1
    dsimp only [ZL, z0, z1]
    by_cases hi : i < vs.length
    ·obtain ⟨cv, hcv⟩ := hB.at (v := vs[i]) (by rw [hvs]; exact List.getElem_mem _)
     have hok := hB.ok _ hcv
     have hcl1 := hcl _ hcv
     simp only at hok hcl1
     have hul : ((vs.take i).map car).length <= 100000 := by rw [List.length_map, List.length_take]; omega
     ((repeat' (first |  (apply WC.drawTail 10; kernel_rfl; kernel_rfl; simp only [List.take_succ_cons, List.take_zero, List.drop_succ_cons, List.drop_zero]) | ((first | apply WL.opN | apply WD.opN); exact yF; dsimp only [ZB, z0, z1]) | refine WL.nil ?_ | refine WD.nil ?_ | refine ZA fun Kx hK => ?_ | (refine hK _ _ ?_; clear hK) | refine WC.region ?_ |  (refine ZCQ (.head _) fun h1 => WL.perm (List.Perm.swap _ _ _) (WL.storeS tySS (OpD.t rfl) (OpD.t rfl) (ZW h1) (by simp) (WL.perm (List.Perm.swap _ _ _) ?_)); dsimp only [ZB, z0, z1]) | ((first | apply WL.appK | apply WL.app1); (exact eD); exact OpD.t rfl; (exact oD); decide; (exact lD); (intro _; dsimp only [ZB, z0, z1]); all_goals (try infer_instance)) | (apply WL.alloc; (first | exact tzV | exact tzC); (first | exact ZW rfl | exact Zs | exact Zi rfl); (intro _; dsimp only [ZB, z0, z1])) | (apply WL.storeF; (exact tD); rfl; (exact oD); (exact hD); dsimp only [ZB, z0, z1]) | ((first | apply WL.opN | apply WD.opN); (focus ((first | (refine Z7 ZBY (OpD.t rfl) (by decide)) | (refine Zp tySS (OpD.t rfl) (.tail _ (.head _)) rfl) | (exact ZBI (OpD.t rfl)) | (refine Z7 strB (OpD.t rfl) (by decide)) | (refine Zp tyCar (OpD.t rfl) (.tail _ (.tail _ (.tail _ (.head _)))) rfl) | (refine SY.lookMC (R := ZF) mapT_car keyT_V (OpD.t rfl) (.tail _ (.tail _ (.tail _ (.tail _ (.head _))))) (.tail _ (.tail _ (.tail _ (.tail _ (.tail _ (.head _)))))) (OpD.t rfl) ⟨fun _ _ _ h => h⟩ hok hB.ok hB.nodup hcv) | (apply SY.call (cloneV_p (car vs[i]) hcl1) Tryz.call82; (exact aD)) | ((first | apply SY.move | apply SY.assign | apply SY.lss | apply SY.neq) <;> (exact oD)) | ((first | apply SY.add) <;> first | exact oD | omega) | (apply ZA3; (exact eD); (exact oD); (exact oD); exact kD) | (apply SY.build1'; (exact eD); ((try simp only [List.map_cons, List.map_nil]); (repeat (first | exact ZAj | (apply ZAU; (first | exact OpD.t rfl | exact OpD.i | exact OpD.b | exact OpD.tle rfl (by first | exact ZN | exact ZK (by decide)) | exact ⟨ZN⟩ | exact ⟨ZK (by decide)⟩))))); rfl; rfl; (intro _; first | exact ZAs | exact ZBt | exact ZBT | exact ZB5); (exact (by simp))) | fail); all_goals infer_instance)); dsimp only [ZB, z0, z1]) | (apply ZC; (exact oD); all_goals (intro h; try exact xD)) | refine WC.skip ?_ | refine WC.block ?_ | refine ThenD.n ?_)); all_goals (first | ((repeat clear hK); (repeat clear Kx))))
     all_goals try (exfalso; first | contradiction | omega)
     (refine ⟨(i + 1, _) , ?_, by first | omega | (simp only; omega), by ((try simp only);  (rw [ZQ hi, List.map_append, List.map_cons, List.map_nil])), ?_⟩; rotate_left; ((try dsimp only [ZL, z0, z1]); repeat (first | exact LeF.nil | refine ZD (k := ?_))); (try dsimp only))
     omega
    ·have hie : i = vs.length := by omega
     subst hie
     rw [List.take_length]
     ((repeat' (first | ((first | apply WL.opN | apply WD.opN); exact yF; dsimp only [ZB, z0, z1]) | refine WL.nil ?_ | refine ZA fun Kx hK => ?_ | (refine hK _ _ ?_; clear hK) | (refine Kont.skip ?_; clear hK) | refine WC.region ?_ |  (refine WL.perm perm_done (WL.storeF ZB8 rfl (OpD.t rfl) shape_A3 (WL.drop (WL.drop (WL.drop (WL.drop ?_))))); dsimp only [ZB, z0, z1]) | ((first | apply WL.opN | apply WD.opN); (focus ((first | (refine SY.loadW ZB8 (OpD.t rfl) (.tail _ (.head _)) (by decide) rfl) | ((first | apply SY.move | apply SY.assign | apply SY.lss | apply SY.neq) <;> (exact oD)) | fail); all_goals infer_instance)); dsimp only [ZB, z0, z1]) | (apply ZC; (exact oD); all_goals (intro h; try exact xD)) | refine WC.ret ?_ | refine WC.exit ?_)); all_goals (first | ((repeat clear hK); (repeat clear Kx))))
     all_goals try (exfalso; first | contradiction | omega)
     exact ⟨trivial, _, _, [_], rfl, rfl, rfl, u, rfl, rfl⟩
  ·dsimp only [ZB, z0, z1]
   have hjs : seen.size < M.length := by
    have h2 : (seen.push j).toList.Nodup := by
     rw [Array.toList_push, List.nodup_append]
     exact ⟨q1, by simp, fun a ha b hb e => hns (by rw [<- List.mem_singleton.1 hb, <- e]; simpa using ha)⟩
    have := nat_nodup h2 (n := M.length) fun i hi => by
     rw [Array.toList_push, List.mem_append, List.mem_singleton] at hi
     rcases hi with hi | rfl
     ·exact q2 i hi
     ·exact hj
    simp only [Array.length_toList, Array.size_push] at this
    omega
   have hps : (seen.push j).size = seen.size + 1 := Array.size_push ..
   ((repeat' (first | ((first | apply WL.opN | apply WD.opN); exact yF; dsimp only [ZB, z0, z1]) | refine WL.nil ?_ | refine ZA fun Kx hK => ?_ | (refine hK _ _ ?_; clear hK) | refine WC.region ?_ |  (refine WL.storeF (d := dS RV M[j].1) tyV rfl (OpD.tle rfl (fun _ _ _ h => h)) ZA8 ?_; dsimp only [ZB, z0, z1]) |  (refine WL.knowRowK (.head _) fun h1 => WL.perm perm_r3 (WL.storeS tySi (OpD.t rfl) (OpD.t rfl) (ZW h1) (by simp) (WL.perm perm_v3 ?_)); dsimp only [ZB, z0, z1]) | ((apply (WL.perm (List.Perm.swap _ _ _)); (first | apply WL.pushK | apply WL.push1); (exact eD); exact OpD.t rfl; (exact oD); (intro _; exact hD); (exact (by simp)); (exact (by simp)); (first | exact ⟨by decide, by decide⟩ | skip); decide; (exact lD); (intro _; dsimp only [ZB, z0, z1]); all_goals (try infer_instance))) | (apply WL.alloc; (first | exact tzV | exact tzC); (first | exact ZW rfl | exact Zs | exact Zi rfl); (intro _; dsimp only [ZB, z0, z1])) | ((first | apply WL.opN | apply WD.opN); (focus ((first | (refine SY.entryM (OpD.t rfl) (.head _) (.tail _ (.tail _ (.tail _ (.tail _ (.tail _ (.head _)))))) hj) | (refine Z7 ZBY (OpD.t rfl) (by decide)) | (refine Zp tySi (OpD.t rfl) (.tail _ (.tail _ (.head _))) rfl) | (apply SY.extract; (exact oD); rfl) | fail); all_goals infer_instance)); dsimp only [ZB, z0, z1]) | (apply ZBG; (exact oD); (with_reducible rfl)) | refine WC.skip ?_ | refine WC.block ?_ | refine ThenD.n ?_ | refine InBlockD.n ?_)); all_goals (first | ((repeat clear hK); (repeat clear Kx))))
   all_goals try (exfalso; first | contradiction | omega)
   (refine ⟨(seen.push j, _, xs ++ [M[j].1]) , ?_, by first | omega | (simp only; omega), by ((try simp only);  rfl), ?_⟩; rotate_left; ((try dsimp only [ZL, z0, z1]); repeat (first | exact LeF.nil | refine ZD (k := ?_))); (try dsimp only))
   refine ⟨?_, fun i hi => ?_, ?_⟩
   ·rw [Array.toList_push, List.nodup_append]
    exact ⟨q1, by simp, fun a ha b hb e => hns (by rw [<- List.mem_singleton.1 hb, <- e]; simpa using ha)⟩
   ·rw [Array.toList_push, List.mem_append, List.mem_singleton] at hi
    rcases hi with hi | rfl
    ·exact q2 i hi
    ·exact hj
   ·rw [q3, Array.toList_push, List.map_append, List.map_cons, List.map_nil, ZCC hj]
set_option maxHeartbeats 16000000 in
theorem chr29_o (l C : Cx) (car : Vx -> List Vx) (he : chrE l = 0) (hOf : ofP (chrF (ZBZ l) l) = (C, 0)) (hcl : ∀ v, (car v).length <= 1000)
  (hcar : ∀ s ∈ l, ∀ bl ∈ ZBw (2 ^ s.length - 1), ∀ (i : Nat) (h : i < (Zh (chrL (ZBZ l) s) s bl).length), okV (Zh (chrL (ZBZ l) s) s bl)[i] /\ car (Zh (chrL (ZBZ l) s) s bl)[i] = atB s (ZA0 bl 0 (fun _ => 0) i)) :
  CallC Tryz.prog 9 [dS CpxL l] [] (fun d hp2 => ∃ vC, d = dT [dAgg [dS Zq C, dS ZF (ZBF [] (chrF (ZBZ l) l).flatten), dX vC], dI 0] /\ hp2 = [ZU vC 28 ZF ((ZBF [] (chrF (ZBZ l) l).flatten).map car)]) := by
 have c1 := chromatics_p l
 rw [he] at c1
 have h0 : ZAn l = 0 := Classical.byContradiction fun q => by unfold chrE at he; rw [if_pos q] at he; exact q he
 have hG := Zg.1 h0
 have hl := hG.1
 have hg := hG.2.2.1
 have h5 : ∀ s ∈ l, s.length <= 5 := fun s hs => Classical.byContradiction fun q => by
  unfold chrE at he
  rw [if_neg (by rw [h0]; decide)] at he
  by_cases hd : l.all Zy = false
  ·rw [if_pos hd] at he; exact absurd he (by decide)
  ·rw [if_neg hd, if_pos (List.any_eq_true.2 ⟨s, hs, decide_eq_true (by omega)⟩)] at he
   exact absurd he (by decide)
 have hsum : sumU l <= 4096 := Classical.byContradiction fun q => by
  unfold chrE at he
  rw [if_neg (by rw [h0]; decide)] at he
  by_cases hd : l.all Zy = false
  ·rw [if_pos hd] at he; exact absurd he (by decide)
  ·rw [if_neg hd] at he
   by_cases ha : l.any (fun s => decide (5 < s.length)) = true
   ·rw [if_pos ha] at he; exact absurd he (by decide)
   ·rw [if_neg ha, if_pos (by omega)] at he; exact absurd he (by decide)
 have cF := facesL_p l (by omega) hg
 obtain ⟨hMo, hMk⟩ := num_ok hg
 have hFl : ∀ i, (chrF (ZBZ l) (l.take i)).length <= 4096 := fun i => by
  rw [ZBy fun s hs => h5 s (List.mem_of_mem_take hs)]
  have := sumU_take (l := l) i
  omega
 have hcs := fun i (h : i < l.length) => chrF_snoc (M := ZBZ l) h
 have hflat : (chrF (ZBZ l) l).flatten.length <= 100000 := by
  have h1 := flat_le (chrF_el (M := ZBZ l) h5)
  rw [ZBy h5] at h1
  omega
 generalize hM : ZBZ l = M at *
 refine ZCb ZB8 Tryz.func9 rfl rfl fun tl0 => ?_
 simp only [Tryz.ntmps9, List.length_cons, List.length_nil, Nat.reduceAdd, Nat.reduceSub, List.replicate_succ, List.replicate_zero, List.cons_append, List.nil_append]
 (repeat' (first |  (refine ZBg (t := 5) rfl ?_; dsimp only [z0, z1]) | (apply WL.opN; exact yF; dsimp only [ZB, z0, z1]) | refine WL.nil ?_ | refine ZA fun Kx hK => ?_ | (refine hK _ _ ?_; clear hK) | refine WC.region ?_ |  (refine WL.alloc (dst := some 2) tzSb (ZAS rfl rfl rfl) fun b2 => ?_; dsimp only [ZB, z0, z1]) |  (refine WL.alloc (dst := some 5) tzNum (ZW rfl) fun b5 => ?_; dsimp only [ZB, z0, z1]) |  (refine WL.storeK tyNum (OpD.t rfl) (OpD.t rfl) shape_Mr ?_; dsimp only [ZB, z0, z1]) |  (refine WL.makeMap kvV (fun u : Value × List Vx => u.1) fun bm => ?_; dsimp only [ZB, z0, z1]) |  (refine WL.boxS (OpD.t rfl) (by simp) fun bs => ?_; dsimp only [ZB, z0, z1]; refine WL.valsNil (K := Vx) ZF (ZAk 28 ZF (WL.perm perm_4x ?_))) | (apply WL.opN; (focus ((first | (exact SY.box (OpD.t rfl) (fun I w v h => ZAl I w v (ZAT I w v h))) | (apply SY.call c1 Tryz.call34; exact ArgsD.cons (OpD.tle rfl ZAT) ArgsD.nil) | (apply SY.call (cF) Tryz.call35; exact ArgsD.cons (OpD.t rfl) (ArgsD.nil)) | (exact SY.mkB1 (OpD.t rfl)) | ((first | apply SY.move | apply SY.assign | apply SY.lss | apply SY.neq) <;> (exact oD)) | (apply SY.len; (exact oD); (exact nD); (exact uD)) | (apply ZA7 cpxT; exact OpD.t rfl) | fail); all_goals infer_instance)); dsimp only [ZB, z0, z1]) | (apply ZH; (exact oD); all_goals (intro h; try exact xD)) | refine WC.skip ?_ | refine WC.block ?_))
 all_goals try (exfalso; first | contradiction | omega)
 (refine WC.loopU (X := Nat × Value × CarM) (fun x => [(23, dI (x.1 : Int)), (8, dA), (24, dA), (25, dA), (26, dA), (27, dA), (28, dA), (29, dA), (30, dA), (31, dA)]) (fun x => (bldO bs bm x.2.1 (chrF M (l.take x.1)) x.2.2 ++ ZO b2 30 3 true (dX (.agg #[.slice none 0 0, .slice none 0 0, .slice none 0 0])) :: tl0)) (fun x => l.length - x.1) (fun x => x.1 <= l.length /\ Bld (chrF M (l.take x.1)).flatten car x.2.2) (0, .slice none 0 0, []) ?start ?frame0 ?objs0 ?round)
 case start => exact ⟨Nat.zero_le _, Bld.nil car⟩
 case frame0 => ((try dsimp only [ZL, z0, z1]); repeat (first | exact LeF.nil | refine ZD (k := ?_)))
 case objs0 => rfl
 case round =>
  rintro ⟨i, fv, M1⟩ ⟨i1, hB⟩
  simp only at i1 hB
  dsimp only [ZL, z0, z1]
  by_cases hi : i < l.length
  ·have hgi := hg _ (List.getElem_mem hi)
   have h5i := h5 _ (List.getElem_mem hi)
   have hlen := (ZBX hgi).1
   have hFi := hFl i
   have hsn := hcs i hi
   have cD := fun bs bm => divide_c bs bm fv (chrF M (l.take i)) M1 l[i] (fun m => m < 1048576) (chrL M l[i]) car (by omega) h5i (by omega) hB
    (fun bl hb i hi => by have h1 := (ZA2 h5i hb).2 i hi; rw [h1.1]; omega) (fun bl hb b hbb => by have := (ZA2 h5i hb).1 b hbb; omega)
    (fun bl hb i hi => by have h1 := (ZA2 h5i hb).2 i hi; rw [h1.1]; omega) (fun bl hb j hj => hcar _ (List.getElem_mem hi) bl hb j hj)
   rw [show chrF M (l.take i) ++ (ZBw (2 ^ l[i].length - 1)).map (Zh (chrL M l[i]) l[i]) = chrF M (l.take (i + 1)) from hsn.symm] at cD
   clear hsn
   ((repeat' (first |  (refine ZBg (t := 8) rfl ?_; dsimp only [z0, z1]) | (apply WL.opN; exact yF; dsimp only [ZB, z0, z1]) | refine WL.nil ?_ | refine ZA fun Kx hK => ?_ | (refine hK _ _ ?_; clear hK) | refine WC.region ?_ |  (refine WL.alloc (dst := some 8) tzAr (ZW rfl) fun b8 => ?_; dsimp only [ZB, z0, z1]) |  (refine WL.storeK tySi (OpD.t rfl) (OpD.t rfl) ZAs ?_; dsimp only [ZB, z0, z1]) |  (refine WL.callC (hp1 := bldO bs bm fv (chrF M (l.take i)) M1) (caps := []) (cD bs bm) Tryz.call36 OpD.f (ArgsD.cons (OpD.t rfl) (ArgsD.cons (OpD.tle rfl le_VL) (ArgsD.cons (OpD.t rfl) ArgsD.nil))) ?_; rintro d' hp2 ⟨fv', M2, hB2, rfl⟩; dsimp only [ZB, z0, z1, List.cons_append, List.nil_append]) | (apply WL.opN; (focus ((first | (refine ZCZ (R := ZAu) (_gR := inferInstance) elSi hi rfl (OpD.t rfl) (OpD.t rfl)) | (apply ZBi (A := fun m : MemM => [dI ((m.1 : Nat) : Int)]) (r := fun m : MemM => dI (chrL M l[i] m.1)) Tryz.call37 (fun m => chro1_p M l[i] m.1 hgi m.2 hMo hMk) (fun m => bare_I); (exact aD)) | ((first | apply SY.move | apply SY.assign | apply SY.lss | apply SY.neq) <;> (exact oD)) | ((first | apply SY.add) <;> first | exact oD | omega) | fail); all_goals infer_instance)); dsimp only [ZB, z0, z1]) | (apply ZC; (exact oD); all_goals (intro h; try exact xD)) | refine WC.skip ?_ | refine WC.block ?_ | refine ThenD.n ?_)); all_goals (first | ((repeat clear hK); (repeat clear Kx))))
   all_goals try (exfalso; first | contradiction | omega)
   refine ⟨(i + 1, _, _), ?_, by simp only; omega, rfl, ?_⟩
   rotate_left
   ·((try dsimp only [ZL, z0, z1]); repeat (first | exact LeF.nil | refine ZD (k := ?_)))
   ·exact ⟨by simp only; omega, hB2⟩
  ·rw [List.take_of_length_le (by omega)] at hB ⊢
   have hbl := bld_len hB
   show WC _ _ _ _ (Zm bs 74 [dX fv, dX (.map (some bm))] :: ZU fv 28 ZF (chrF M l) :: hMC bm kvV M1 :: ZAL ZF M1 :: ZO b2 30 3 true (dX (.agg #[.slice none 0 0, .slice none 0 0, .slice none 0 0])) :: tl0)
   refine WC.keepS (k := 0) rfl ?_
   dsimp only [z0, z1]
   ((repeat' (first | (apply WL.opN; exact yF; dsimp only [ZB, z0, z1]) | refine WL.nil ?_ | refine ZA fun Kx hK => ?_ | (refine hK _ _ ?_; clear hK) | (refine Kont.skip ?_; clear hK) | refine WC.region ?_ |  (refine WL.callC (hp1 := [_, _, _]) (caps := []) (done_o bs bm (chrF M l) C (chrF M l).flatten car M1 hOf hB (Nat.le_trans hbl hflat) (fun p hp => by rw [hB.car p hp]; exact hcl _)) Tryz.call40 OpD.f (ArgsD.cons (OpD.t rfl) ArgsD.nil) ?_; rintro d' hp2 ⟨vC, rfl, rfl⟩; dsimp only [ZB, z0, z1, List.cons_append, List.nil_append]) |  (refine WL.perm (List.Perm.swap _ _ _) (WL.storeF ZB8 rfl (OpD.t rfl) shape_A3 ?_); dsimp only [ZB, z0, z1]) | (apply WL.opN; (focus ((first | ((first | apply SY.move | apply SY.assign | apply SY.lss | apply SY.neq) <;> (exact oD)) | (apply SY.extract; (exact oD); rfl) | fail); all_goals infer_instance)); dsimp only [ZB, z0, z1]) | (apply ZC; (exact oD); all_goals (intro h; try exact xD)) | refine WC.ret ?_ | refine WC.exit ?_)); all_goals (first | ((repeat clear hK); (repeat clear Kx))))
   all_goals try (exfalso; first | contradiction | omega)
   exact ⟨trivial, _, _, [_], rfl, rfl, rfl, _, rfl, rfl⟩
end
section
open Go.RowKit

theorem light_c (l : Cx) (m : Int) : Fn Tryz.prog 6 [dS Cpx l, dI m] (dB (decide ((l.length : Int) <= m) && decide (dimC l <= 2))) := by
 have c1 := size_c l
 generalize dimC l = n at *
 generalize sizeP l = q at *
 (refine ZE Tryz.func6 rfl rfl ?_; simp only [Tryz.ntmps6, List.length_cons, List.length_nil, Nat.reduceAdd, Nat.reduceSub, List.replicate_succ, List.replicate_zero, List.cons_append, List.nil_append])
 by_cases hm : (l.length : Int) <= m
 ·rw [decide_eq_true hm, Bool.true_and]
  ((repeat' (first | (apply WL.opN; exact yF; dsimp only [ZB, z0, z1]) | refine WL.nil ?_ | refine ZA fun Kx hK => ?_ | (refine hK _ _ ?_; clear hK) | refine WC.region ?_ | (apply ZJ; (focus (first | exact wN | (apply ZG; (exact wY); ((first | (exact SY.box (OpD.t rfl) ZAl) | (apply SY.call (c1) Tryz.call25; (exact aD)) | ((first | apply SY.move | apply SY.assign | apply SY.leq) <;> (exact oD)) | (apply SY.len; (exact oD); (exact nD); (exact uD)) | (apply ZA7 cpxT; exact OpD.t rfl) | (apply ZAJ; (exact oD); (with_reducible rfl); (exact oD)) | (apply SY.extract; (exact oD); rfl) | fail); all_goals infer_instance)))); dsimp only [ZB, z0, z1]) | ((first | refine Zd rfl rfl rfl (fun h => ?_) (fun h => ?_) | refine Zc rfl rfl rfl (fun h => ?_) (fun h => ?_) | refine ZY rfl rfl rfl (fun h => ?_) (fun h => ?_)) <;> (first | (exfalso; first | omega | contradiction) | (dsimp only [z0, z1]))) | refine WC.ret ?_)); all_goals (first | ((repeat clear hK); (repeat clear Kx))))
  all_goals first | (refine ⟨trivial, _, rfl, ?_⟩; exact fD) | (exfalso; first | contradiction | omega)
 ·rw [decide_eq_false hm, Bool.false_and]
  ((repeat' (first | (apply WL.opN; exact yF; dsimp only [ZB, z0, z1]) | refine WL.nil ?_ | refine ZA fun Kx hK => ?_ | (refine hK _ _ ?_; clear hK) | refine WC.region ?_ | (apply ZJ; (focus (first | exact wN | (apply ZG; (exact wY); ((first | (exact SY.box (OpD.t rfl) ZAl) | (apply SY.call (c1) Tryz.call25; (exact aD)) | ((first | apply SY.move | apply SY.assign | apply SY.leq) <;> (exact oD)) | (apply SY.len; (exact oD); (exact nD); (exact uD)) | (apply ZA7 cpxT; exact OpD.t rfl) | (apply Z6; (exact oD); (with_reducible rfl); (exact oD)) | (apply SY.extract; (exact oD); rfl) | fail); all_goals infer_instance)))); dsimp only [ZB, z0, z1]) | ((first | refine Zd rfl rfl rfl (fun h => ?_) (fun h => ?_) | refine Zc rfl rfl rfl (fun h => ?_) (fun h => ?_) | refine ZY rfl rfl rfl (fun h => ?_) (fun h => ?_)) <;> (first | (exfalso; first | omega | contradiction) | (dsimp only [z0, z1]))) | refine WC.ret ?_)); all_goals (first | ((repeat clear hK); (repeat clear Kx))))
  all_goals first | (refine ⟨trivial, _, rfl, ?_⟩; exact fD) | (exfalso; first | contradiction | omega)
end
section
open Go.RowKit
section
variable {ops : Array Oper} {hp : List HObj} {fr : List Dat} {dst : Option Tmp} {ty : TypeId} {ps : String} {af : Array Edge} {g : Option (Nat × Bool)}
theorem SY.mkS01 {x y : Operand} {xs : Cx} {vs : List Vx} (hx : OpD fr x (dS Cpx xs)) (hy : OpD fr y (dS ZF vs)) : SY Tryz.prog ops hp { dst := dst, op := .build 30 #[(0, x), (1, y)], type := ty, pos := ps, after := af, guard := g } fr (dAgg [dS Zq xs, dS ZF vs, dX (.slice none 0 0)]) := SY.val fun {I w a} ho => by
 obtain ⟨u, h1, h0, h2⟩ : Cpx I w (a.eval x) xs := hx.get (by simp [Op.operands]) ho
 have h3 : ArrK 2 RV I w (a.eval y) vs := hy.get (by simp [Op.operands]) ho
 have h2' := h2
 obtain ⟨ad, c, hv, _⟩ := h2'
 subst hv
 have h3' := h3
 obtain ⟨ad2, c2, hv2, _⟩ := h3'
 have hm : ∀ ad n c ad2 n2 c2 w, (Instr.build 30 #[(0, .agg #[.slice ad n c]), (1, .slice ad2 n2 c2)]).run Tryz.prog w = .ok (.agg #[.slice ad n c, .slice ad2 n2 c2, .slice none 0 0]) w := by intro ad n c ad2 n2 c2 w; go_simp
 refine ⟨.agg #[.slice ad xs.length c, .slice ad2 vs.length c2, .slice none 0 0], ?_, [_, _, _], rfl, rfl, by simp [Value.oneCell'], fun k c d hc hd => ?_⟩
 ·unfold execOp
  simp only [List.map_toArray, List.map_cons, List.map_nil, h1, hv2, Sem.run_bind, hm, Result.andThen_ok, Sem.run_pure]
 ·match k, hc, hd with
  | 0, hc, hd => cases hc; cases hd; exact h2
  | 1, hc, hd => cases hc; cases hd; rw [hv2] at h3; exact h3
  | 2, hc, hd => cases hc; cases hd; rfl
end
end
end Go.Proofs.YtmcllakdbgnfiaaGreatDoor
