/- Part 32: walks by contracts, and plain laws. -/
import Derived.Test.YtmcllakdbgnfiaaGreatDoorVg31
set_option linter.unusedVariables false
set_option linter.unusedSimpArgs false
set_option linter.unusedSectionVars false
set_option maxRecDepth 100000
set_option maxHeartbeats 4000000
namespace Go.Proofs.YtmcllakdbgnfiaaGreatDoor
section
open Go.RowKit
section
variable {P : Program} {f : FuncId} {fn : Func} {c : Code} {t : Tmp} {ds : List Dat} {hp1 : List HObj} {K : Dat -> List HObj -> Prop}
def finCC2 (t u : Nat) (n : Nat) (agg : Bool) (K : Dat -> List HObj -> Prop) (hp : List HObj) : Z1 := fun e f q => (match e with | .normal | .ret => True | _ => False) /\ ∃ d d2 hp2, f[t]? = some (dP n agg d) /\ f[u]? = some d2 /\ q = hp2 ++ hp /\ K (dT [d, d2]) hp2
theorem ZCb {t2 : Tmp} {T : TypeId} {n : Nat} {agg : Bool} (T' : TyI P T n agg) (hf : P.funcs[f]? = some fn) (hb : fn.body = some c) (hr : fn.results = #[.cell t T, .tmp t2])
  (h : ∀ hp, WC P (finCC2 t t2 n agg K hp) c (ds ++ List.replicate (fn.ntmps - ds.length) (dX undef)) (hp1 ++ hp)) : CallC P f ds hp1 K := ⟨fun P0 B w0 hp vs W hh hl hv => by
 refine calls_of_wp hf hb ?_
 have hf0 := ZAg (m := fn.ntmps - ds.length) hl hv
 have hsz : vs.toArray.size = ds.length := by simp [hl]
 rw [hsz]
 refine Code.wp_mono (fun e a' w' ⟨f', p', q, hh', hf'⟩ => ?_) ((h hp).on hh hf0)
 obtain ⟨hx, d', d2, hp2, hd', hd2, rfl, hk'⟩ := q
 obtain ⟨b, off, u, h1, h2, h3⟩ := hf'.rd t _ hd'
 have hres : (dT [d', d2]).rd (Imm P0 B (hp2 ++ hp)) w' (.tuple #[u, a'.tmps.getD t2 undef]) := ⟨[u, a'.tmps.getD t2 undef], rfl, rfl, fun i e x he hx => by
  match i, he, hx with
  | 0, he, hx => cases he; cases hx; exact h3
  | 1, he, hx => cases he; cases hx; exact hf'.rd t2 d2 hd2⟩
 cases e with
 | normal => exact ⟨hf'.defers, _, ZBL T' hr h1 h2, _, _, hp2, rfl, hk', hh', hres⟩
 | ret => exact ⟨hf'.defers, _, ZBL T' hr h1 h2, _, _, hp2, rfl, hk', hh', hres⟩
 | _ => exact hx.elim⟩
end
section
variable {P : Program} {ops : Array Oper} {hp : List HObj} {fr : List Dat} {Q : Z1} {rest : List Oper} {T : TypeId} {b k : Nat} {ds : List Dat}
theorem WC.keepSK {c : Code} {α : Type} {R : Rel α} {_gR : Good R} {v : Value} {xs : List α} {eT : TypeId} {n : Nat} (hk : ds[k]? = some (dX v)) (h : WC P Q c fr (Zm b T (ds.set k (dS (ArrK n R) xs)) :: hp)) : WC P Q c fr (Zm b T ds :: ZS v eT n R xs :: hp) := WC.of fun P0 B w0 w a hh hf => by
 obtain ⟨hh1, hI1⟩ := hh.perm (List.Perm.swap _ _ _)
 have hA : ArrK n R (Imm P0 B (Zm b T ds :: hp)) w v xs := ZCJ hh1
 have hh2 := hh1.drop
 have hgr : w.grownBy w (Zm b T ds).blk := ⟨rfl, rfl, rfl, Nat.le_refl _, fun _ _ _ => rfl⟩
 obtain ⟨cs, c1, c2, c3, c4⟩ := hh2.ok (Zm b T ds) (by simp)
 have hkl := (List.getElem?_eq_some_iff.1 hk).1
 have hkc : k < cs.length := by omega
 have hv : cs[k] = v := c4 k _ _ (List.getElem?_eq_getElem hkc) hk
 have hok : (Zm b T (ds.set k (dS (ArrK n R) xs))).ok (fun j => Imm P0 B (Zm b T ds :: hp) j /\ j < w.heap.size) w := by
  refine ⟨cs, c1, by simp [c2], c3, fun j c e hc he => ?_⟩
  rw [List.getElem?_set] at he
  by_cases hjk : k = j
  ·rw [if_pos hjk, if_pos hkl] at he
   cases he
   subst hjk
   rw [List.getElem?_eq_getElem hkc] at hc
   cases hc
   rw [hv]
   exact (dS (ArrK n R) xs).bound hA
  ·rw [if_neg hjk] at he
   exact e.bound (c4 j c e hc he)
 refine h.on (hh2.write hgr (.inl rfl) hok) (hf.mono fun d u hd => ?_)
 exact ZI (o := Zm b T ds) (o' := Zm b T (ds.set k (dS (ArrK n R) xs))) hgr (.inl rfl) (d.weak hd fun j hj => Imm.sub j ((hI1 j).1 hj))
theorem WL.keepSK {α : Type} {R : Rel α} {_gR : Good R} {v : Value} {xs : List α} {eT : TypeId} {n : Nat} (hk : ds[k]? = some (dX v)) (h : WL P ops Q rest fr (Zm b T (ds.set k (dS (ArrK n R) xs)) :: hp)) : WL P ops Q rest fr (Zm b T ds :: ZS v eT n R xs :: hp) := WL.of fun P0 B w0 w a hh hf => by
 obtain ⟨hh1, hI1⟩ := hh.perm (List.Perm.swap _ _ _)
 have hA : ArrK n R (Imm P0 B (Zm b T ds :: hp)) w v xs := ZCJ hh1
 have hh2 := hh1.drop
 have hgr : w.grownBy w (Zm b T ds).blk := ⟨rfl, rfl, rfl, Nat.le_refl _, fun _ _ _ => rfl⟩
 obtain ⟨cs, c1, c2, c3, c4⟩ := hh2.ok (Zm b T ds) (by simp)
 have hkl := (List.getElem?_eq_some_iff.1 hk).1
 have hkc : k < cs.length := by omega
 have hv : cs[k] = v := c4 k _ _ (List.getElem?_eq_getElem hkc) hk
 have hok : (Zm b T (ds.set k (dS (ArrK n R) xs))).ok (fun j => Imm P0 B (Zm b T ds :: hp) j /\ j < w.heap.size) w := by
  refine ⟨cs, c1, by simp [c2], c3, fun j c e hc he => ?_⟩
  rw [List.getElem?_set] at he
  by_cases hjk : k = j
  ·rw [if_pos hjk, if_pos hkl] at he
   cases he
   subst hjk
   rw [List.getElem?_eq_getElem hkc] at hc
   cases hc
   rw [hv]
   exact (dS (ArrK n R) xs).bound hA
  ·rw [if_neg hjk] at he
   exact e.bound (c4 j c e hc he)
 refine h.on (hh2.write hgr (.inl rfl) hok) (hf.mono fun d u hd => ?_)
 exact ZI (o := Zm b T ds) (o' := Zm b T (ds.set k (dS (ArrK n R) xs))) hgr (.inl rfl) (d.weak hd fun j hj => Imm.sub j ((hI1 j).1 hj))
theorem WL.knowRowK {α : Type} {R : Rel α} {_gR : Good R} {v : Value} {e : TypeId} {n : Nat} {xs : List α} (hm : ZS v e n R xs ∈ hp) (h : v.oneCell' = true -> WL P ops Q rest fr hp) : WL P ops Q rest fr hp := WL.of fun _ _ _ _ _ hh hf => by
 refine (h ?_).on hh hf
 obtain ⟨us, _, _, _, ⟨_, hv⟩, _⟩ := hh.ok _ hm
 rcases hv with ⟨hv, _⟩ | ⟨g, cap, cur, hv, _⟩ <;> rw [hv] <;> rfl
theorem ZCQ {α : Type} {R : Rel α} {_gR : Good R} {v : Value} {e : TypeId} {xs : List α} (hm : ZU v e R xs ∈ hp) (h : v.oneCell' = true -> WL P ops Q rest fr hp) : WL P ops Q rest fr hp := WL.of fun _ _ _ _ _ hh hf => by
 refine (h ?_).on hh hf
 obtain ⟨us, _, ⟨_, hv⟩, _⟩ := hh.ok _ hm
 rcases hv with ⟨hv, _⟩ | ⟨g, cap, cur, hv, _⟩ <;> rw [hv] <;> rfl
end

theorem done_x (x y : Vx) (w : World) : Calls Tryz.prog 80 #[.agg #[.int .i64 x.1, .int .i64 x.2], .agg #[.int .i64 y.1, .int .i64 y.2]] w fun e w' => e = .returned (.int .i64 (ZAX x y)) /\ ∃ q os', w' = Go.Sort.grow (w.drewN q) os' := M.don_x x y w
theorem sort_keys {ys xs L : List Vx} (hp : ys.Perm xs) (hs : ys.Pairwise fun a b => ¬ ZAX b a < 0) (hn : xs.Nodup) (hm : ∀ v, v ∈ xs ↔ v ∈ L) : ys = ZBF [] L := by
 refine ZCa ?_ (ZCf (by simp [Asc])) fun v => ?_
 ·have hn' : ys.Nodup := hp.nodup_iff.2 hn
  refine List.Pairwise.imp₂ ?_ hs hn'
  intro a b h1 h2
  rcases Int.lt_trichotomy (ZAX a b) 0 with h | h | h
  ·exact h
  ·exact absurd (ZBR.1 h) h2
  ·have := cmpV_neg a b
   omega
 ·rw [hp.mem_iff, hm, ZAq]
  simp
theorem nat_nodup {l : List Nat} {n : Nat} (h : l.Nodup) (hb : ∀ j ∈ l, j < n) : l.length <= n := by
 have := List.Nodup.length_le_of_subset h (l₂ := List.range n) fun j hj => List.mem_range.2 (hb j hj)
 simpa using this
def keyAt (M : CarM) (j : Nat) : Vx := (M.map (·.1)).getD j (0, 0)
theorem ZCC {M : CarM} {j : Nat} (h : j < M.length) : keyAt M j = M[j].1 := by
 unfold keyAt
 simp [List.getD, h]
theorem keys_seen {M : CarM} {l : List Nat} (hn : (M.map (·.1)).Nodup) (hl : l.Nodup) (hb : ∀ j ∈ l, j < M.length) (hall : ∀ j, j < M.length -> j ∈ l) : (l.map (keyAt M)).Nodup /\ ∀ v, v ∈ l.map (keyAt M) ↔ v ∈ M.map (·.1) := by
 refine ⟨?_, fun v => ?_⟩
 ·refine List.Pairwise.map _ ?_ (List.Pairwise.and_mem.1 hl)
  intro i j hij e
  obtain ⟨hi, hj, hne⟩ := hij
  have h1 := hb i hi
  have h2 := hb j hj
  rw [ZCC h1, ZCC h2] at e
  have e2 : (M.map (·.1))[i]'(by simpa using h1) = (M.map (·.1))[j]'(by simpa using h2) := by simpa using e
  exact hne ((List.getElem_inj hn).1 e2)
 ·rw [List.mem_map, List.mem_map]
  constructor
  ·rintro ⟨j, hj, rfl⟩
   exact ⟨M[j]'(hb j hj), List.getElem_mem _, (ZCC (hb j hj)).symm⟩
  ·rintro ⟨q, hq, rfl⟩
   obtain ⟨j, hj, rfl⟩ := List.getElem_of_mem hq
   exact ⟨j, hall j hj, ZCC hj⟩
theorem perm_r3 {a b c : HObj} {hp : List HObj} : (a :: b :: c :: hp).Perm (c :: a :: b :: hp) := (List.Perm.cons a (List.Perm.swap c b hp)).trans (List.Perm.swap c a _)
theorem perm_v3 {a b c : HObj} {hp : List HObj} : (a :: b :: c :: hp).Perm (c :: b :: a :: hp) := perm_r3.trans (List.Perm.cons c (List.Perm.swap _ _ _))
theorem Bld.at {L : List Vx} {car : Vx -> List Vx} {M : CarM} (h : Bld L car M) {v : Vx} (hv : v ∈ ZBF [] L) : ∃ cv, (v, cv, car v) ∈ M := by
 have h1 : v ∈ L := by
  rcases ZAq.1 hv with h | h
  ·cases h
  ·exact h
 obtain ⟨p, hp, he⟩ := List.mem_map.1 ((h.mem v).2 h1)
 refine ⟨p.2.1, ?_⟩
 rw [<- he, <- h.car p hp]
 exact hp
set_option maxHeartbeats 16000000 in
theorem done_c (bs bm : Nat) (F C : Cx) (L : List Vx) (car : Vx -> List Vx) (M : CarM) (hOf : ofP F = (C, 0)) (hB : Bld L car M) (hl : M.length <= 100000) (hcl : ∀ p ∈ M, p.2.2.length <= 1000) :
  CallC Tryz.prog 40 ([dX (.pointer (some ⟨bs, 0, none⟩))] ++ ([] : List Value).map dX) [Zm bs 74 [dS Zq F, dX (.map (some bm))], hMC bm kvV M, ZAL ZF M]
   (fun d hp2 => d = dT [dS SubR (C, ZBF [] L, (ZBF [] L).map car), dI 0] /\ hp2 = []) := by
 have hO := of27_p F
 rw [hOf] at hO
 refine ZCb ZB8 Tryz.func40 rfl rfl fun hp => ?_
 simp only [Tryz.ntmps40, List.length_cons, List.length_nil, List.length_append, List.length_map, Nat.reduceAdd, Nat.reduceSub, List.replicate_succ, List.replicate_zero, List.cons_append, List.nil_append, List.map_cons, List.map_nil, List.append_assoc]
 (repeat' (first | ((first | apply WL.opN | apply WD.opN); exact yF; dsimp only [ZB, z0, z1]) | refine WL.nil ?_ | refine ZA fun Kx hK => ?_ | (refine hK _ _ ?_; clear hK) | refine WC.region ?_ |  (refine WL.alloc (dst := some 2) tzSb (ZAS rfl rfl rfl) fun b2 => ?_; dsimp only [ZB, z0, z1]) |  (refine WL.allocS (dst := some 6) (zs := [.slice none 0 0, .slice none 0 0, .slice none 0 0]) tzSb (by decide) (by simp [Value.oneCell']) fun b6 => ?_; dsimp only [ZB, z0, z1, List.map_cons, List.map_nil]) |  (refine WL.storeW ZB8 (OpD.t rfl) (OpD.t rfl) rfl rfl ?_; dsimp only [ZB]) |  (refine WL.rangeM mapT_car (OpD.t rfl) (.tail _ (.tail _ (.tail _ (.head _)))) fun r => ?_; dsimp only [ZB, z0, z1]) | (apply WL.alloc; (first | exact tzV | exact tzC); (first | exact ZW rfl | exact Zs | exact Zi rfl); (intro _; dsimp only [ZB, z0, z1])) | (apply WL.storeF; (exact tD); rfl; (exact oD); (exact hD); dsimp only [ZB, z0, z1]) | ((first | apply WL.opN | apply WD.opN); (focus ((first | (exact ZBI (OpD.t rfl)) | (refine Z7 strB (OpD.t rfl) (by decide)) | (refine Zp tySS (OpD.t rfl) (.tail _ (.head _)) rfl) | (apply SY.call (hO) Tryz.call52; (exact aD)) | (exact SY.mkS0 (OpD.t rfl)) | (refine Zp tyCar (OpD.t rfl) (.tail _ (.tail _ (.head _))) rfl) | ((first | apply SY.move | apply SY.assign | apply SY.lss | apply SY.neq) <;> (exact oD)) | (apply SY.extract; (exact oD); rfl) | fail); all_goals infer_instance)); dsimp only [ZB, z0, z1]) | (apply ZH; (exact oD); all_goals (intro h; try exact xD)) | refine WC.skip ?_ | refine WC.block ?_))
 all_goals try (exfalso; first | contradiction | omega)
 refine ZBh 45 2 (by decide) RV ?_
 refine WC.perm (List.Perm.swap _ _ _) ?_
 (refine WC.loopU (X := Array Nat × Value × List Vx) (fun x => [(7, dA), (29, dA), (30, dA), (31, dA), (32, dA), (33, dA), (34, dA), (35, dA), (36, dA), (37, dA), (38, dA)]) (fun x => (hIt bm r M.length x.1 :: ZS x.2.1 45 2 RV x.2.2 :: Zm b6 30 [dS Zq C, dX x.2.1, dX (.slice none 0 0)] :: ZO b2 30 3 true (dX (.agg #[.slice none 0 0, .slice none 0 0, .slice none 0 0])) :: Zm bs 74 [dS Zq F, dX (.map (some bm))] :: hMC bm kvV M :: ZAL ZF M :: hp)) (fun x => M.length - x.1.size) (fun x => x.1.toList.Nodup /\ (∀ j ∈ x.1.toList, j < M.length) /\ x.2.2 = x.1.toList.map (keyAt M)) (#[], .slice none 0 0, []) ?start ?frame0 ?objs0 ?round)
 case start => exact ⟨by simp, by simp, by simp⟩
 case frame0 => ((try dsimp only [ZL, z0, z1]); repeat (first | exact LeF.nil | refine ZD (k := ?_)))
 case objs0 => rfl
 case round =>
  rintro ⟨seen, v, xs⟩ ⟨q1, q2, q3⟩
  simp only at q1 q2 q3
  dsimp only [ZL, z0, z1]
  have hsz : seen.size <= M.length := by
   have := nat_nodup q1 q2
   simpa using this
  have hxl : xs.length <= 100000 := by rw [q3, List.length_map]; simp; omega
  refine ZA fun Kx hK => ?_
  refine WC.region ?_
  refine WL.nextM (OpD.t rfl) (.tail _ (.tail _ (.tail _ (.tail _ (.head _))))) (fun hall => ?_) (fun j hj hns => ?_)
  ·dsimp only [ZB, z0, z1]
   obtain ⟨k1, k2⟩ := keys_seen hB.nodup q1 q2 (fun j hj => by simpa using hall j hj)
   rw [<- q3] at k1 k2
   refine WL.drop ?_
   (repeat' (first | ((first | apply WL.opN | apply WD.opN); exact yF; dsimp only [ZB, z0, z1]) | refine WL.nil ?_ | refine ZA fun Kx hK => ?_ | (refine hK _ _ ?_; clear hK) | (refine Kont.skip ?_; clear hK) | refine WC.region ?_ |  (refine WL.sortVG Tryz.call80 done_x (OpD.t rfl) (by omega) fun ys hperm hsort => ?_; refine WL.perm (List.Perm.swap _ _ _) (WL.keepSK (k := 1) rfl (ZAk 28 ZF ?_)); dsimp only [ZB, z0, z1]) | ((first | apply WL.opN | apply WD.opN); (focus ((first | (refine Z7 ZBY (OpD.t rfl) (by decide)) | (refine Zp tySi (OpD.t rfl) (.tail _ (.head _)) rfl) | (apply SY.len; (exact oD); (exact nD); (exact uD)) | (apply SY.extract; (exact oD); rfl) | fail); all_goals infer_instance)); dsimp only [ZB, z0, z1]) | (apply Zr; (exact oD); (with_reducible rfl)) | refine WC.exit ?_ | refine WC.block ?_))
   have hys := sort_keys hperm hsort k1 fun v => (k2 v).trans (hB.mem v)
   have hyl : ys.length <= 100000 := by rw [hperm.length_eq]; exact hxl
   subst hys
   generalize hvs : ZBF [] L = vs at *
   (refine WC.loopU (X := Nat × Value) (fun x => [(45, dI (x.1 : Int)), (9, dA), (46, dA), (47, dA), (48, dA), (49, dA), (50, dA), (51, dA), (52, dA), (53, dA), (54, dA), (55, dA), (56, dA), (57, dA), (58, dA), (59, dA), (60, dA), (61, dA)]) (fun x => (ZU x.2 28 ZF ((vs.take x.1).map car) :: Zm b6 30 [dS Zq C, dS ZF vs, dX x.2] :: ZO b2 30 3 true (dX (.agg #[.slice none 0 0, .slice none 0 0, .slice none 0 0])) :: Zm bs 74 [dS Zq F, dX (.map (some bm))] :: hMC bm kvV M :: ZAL ZF M :: hp)) (fun x => vs.length - x.1) (fun x => x.1 <= vs.length) (0, .slice none 0 0) ?start ?frame0 ?objs0 ?round)
   case start => exact Nat.zero_le _
   case frame0 => ((try dsimp only [ZL, z0, z1]); repeat (first | exact LeF.nil | refine ZD (k := ?_)))
   case objs0 => rfl
   case round =>
    rintro ⟨i, u⟩ g1
    simp only at g1
    dsimp only [ZL, z0, z1]
    by_cases hi : i < vs.length
    ·obtain ⟨cv, hcv⟩ := hB.at (v := vs[i]) (by rw [hvs]; exact List.getElem_mem _)
     have hok := hB.ok _ hcv
     have hcl1 := hcl _ hcv
     simp only at hok hcl1
     have hul : ((vs.take i).map car).length <= 100000 := by rw [List.length_map, List.length_take]; omega
     ((repeat' (first |  (apply WC.drawTail 10; kernel_rfl; kernel_rfl; simp only [List.take_succ_cons, List.take_zero, List.drop_succ_cons, List.drop_zero]) | ((first | apply WL.opN | apply WD.opN); exact yF; dsimp only [ZB, z0, z1]) | refine WL.nil ?_ | refine WD.nil ?_ | refine ZA fun Kx hK => ?_ | (refine hK _ _ ?_; clear hK) | refine WC.region ?_ |  (refine ZCQ (.head _) fun h1 => WL.perm (List.Perm.swap _ _ _) (WL.storeS tySS (OpD.t rfl) (OpD.t rfl) (ZW h1) (by simp) (WL.perm (List.Perm.swap _ _ _) ?_)); dsimp only [ZB, z0, z1]) | ((first | apply WL.appK | apply WL.app1); (exact eD); exact OpD.t rfl; (exact oD); decide; (exact lD); (intro _; dsimp only [ZB, z0, z1]); all_goals (try infer_instance)) | (apply WL.alloc; (first | exact tzV | exact tzC); (first | exact ZW rfl | exact Zs | exact Zi rfl); (intro _; dsimp only [ZB, z0, z1])) | (apply WL.storeF; (exact tD); rfl; (exact oD); (exact hD); dsimp only [ZB, z0, z1]) | ((first | apply WL.opN | apply WD.opN); (focus ((first | (refine Z7 ZBY (OpD.t rfl) (by decide)) | (refine Zp tySS (OpD.t rfl) (.tail _ (.head _)) rfl) | (exact ZBI (OpD.t rfl)) | (refine Z7 strB (OpD.t rfl) (by decide)) | (refine Zp tyCar (OpD.t rfl) (.tail _ (.tail _ (.tail _ (.head _)))) rfl) | (refine SY.lookMC (R := ZF) mapT_car keyT_V (OpD.t rfl) (.tail _ (.tail _ (.tail _ (.tail _ (.head _))))) (.tail _ (.tail _ (.tail _ (.tail _ (.tail _ (.head _)))))) (OpD.t rfl) ⟨fun _ _ _ h => h⟩ hok hB.ok hB.nodup hcv) | (apply SY.call (cloneV_p (car vs[i]) hcl1) Tryz.call82; (exact aD)) | ((first | apply SY.move | apply SY.assign | apply SY.lss | apply SY.neq) <;> (exact oD)) | ((first | apply SY.add) <;> first | exact oD | omega) | (apply ZA3; (exact eD); (exact oD); (exact oD); exact kD) | (apply SY.build1'; (exact eD); ((try simp only [List.map_cons, List.map_nil]); (repeat (first | exact ZAj | (apply ZAU; (first | exact OpD.t rfl | exact OpD.i | exact OpD.b | exact OpD.tle rfl (by first | exact ZN | exact ZK (by decide)) | exact ⟨ZN⟩ | exact ⟨ZK (by decide)⟩))))); rfl; rfl; (intro _; first | exact ZAs | exact ZBt | exact ZBT | exact ZB5); (exact (by simp))) | fail); all_goals infer_instance)); dsimp only [ZB, z0, z1]) | (apply ZC; (exact oD); all_goals (intro h; try exact xD)) | refine WC.skip ?_ | refine WC.block ?_ | refine ThenD.n ?_)); all_goals (first | ((repeat clear hK); (repeat clear Kx))))
     all_goals try (exfalso; first | contradiction | omega)
     (refine ⟨(i + 1, _) , ?_, by first | omega | (simp only; omega), by ((try simp only);  (rw [ZQ hi, List.map_append, List.map_cons, List.map_nil])), ?_⟩; rotate_left; ((try dsimp only [ZL, z0, z1]); repeat (first | exact LeF.nil | refine ZD (k := ?_))); (try dsimp only))
     omega
    ·have hie : i = vs.length := by omega
     subst hie
     rw [List.take_length]
     refine WC.perm (List.Perm.swap _ _ _) (WC.keepS (k := 2) rfl ?_)
     dsimp only [z0, z1]
     ((repeat' (first | ((first | apply WL.opN | apply WD.opN); exact yF; dsimp only [ZB, z0, z1]) | refine WL.nil ?_ | refine ZA fun Kx hK => ?_ | (refine hK _ _ ?_; clear hK) | (refine Kont.skip ?_; clear hK) | refine WC.region ?_ |  (refine WL.storeF2 (d := dS SubR (C, vs, vs.map car)) ZB8 rfl (OpD.tle rfl agg_R3) Z9 (WL.drop (WL.drop (WL.drop (WL.drop ?_)))); dsimp only [ZB, z0, z1]) | ((first | apply WL.opN | apply WD.opN); (focus ((first | (refine SY.loadW ZB8 (OpD.t rfl) (.head _) (by decide) rfl) | ((first | apply SY.move | apply SY.assign | apply SY.lss | apply SY.neq) <;> (exact oD)) | fail); all_goals infer_instance)); dsimp only [ZB, z0, z1]) | (apply ZC; (exact oD); all_goals (intro h; try exact xD)) | refine WC.ret ?_ | refine WC.exit ?_)); all_goals (first | ((repeat clear hK); (repeat clear Kx))))
     all_goals try (exfalso; first | contradiction | omega)
     exact ⟨trivial, _, _, [], rfl, rfl, rfl, rfl, rfl⟩
  ·dsimp only [ZB, z0, z1]
   have hjs : seen.size < M.length := by
    have h2 : (seen.push j).toList.Nodup := by
     rw [Array.toList_push, List.nodup_append]
     exact ⟨q1, by simp, fun a ha b hb e => hns (by rw [<- List.mem_singleton.1 hb, <- e]; simpa using ha)⟩
    have := nat_nodup h2 (n := M.length) fun i hi => by
     rw [Array.toList_push, List.mem_append, List.mem_singleton] at hi
     rcases hi with hi | rfl
     ·exact q2 i hi
     ·exact hj
    simp only [Array.length_toList, Array.size_push] at this
    omega
   have hps : (seen.push j).size = seen.size + 1 := Array.size_push ..
   ((repeat' (first | ((first | apply WL.opN | apply WD.opN); exact yF; dsimp only [ZB, z0, z1]) | refine WL.nil ?_ | refine ZA fun Kx hK => ?_ | (refine hK _ _ ?_; clear hK) | refine WC.region ?_ |  (refine WL.storeF (d := dS RV M[j].1) tyV rfl (OpD.tle rfl (fun _ _ _ h => h)) ZA8 ?_; dsimp only [ZB, z0, z1]) |  (refine WL.knowRowK (.head _) fun h1 => WL.perm perm_r3 (WL.storeS tySi (OpD.t rfl) (OpD.t rfl) (ZW h1) (by simp) (WL.perm perm_v3 ?_)); dsimp only [ZB, z0, z1]) | ((apply (WL.perm (List.Perm.swap _ _ _)); (first | apply WL.pushK | apply WL.push1); (exact eD); exact OpD.t rfl; (exact oD); (intro _; exact hD); (exact (by simp)); (exact (by simp)); (first | exact ⟨by decide, by decide⟩ | skip); decide; (exact lD); (intro _; dsimp only [ZB, z0, z1]); all_goals (try infer_instance))) | (apply WL.alloc; (first | exact tzV | exact tzC); (first | exact ZW rfl | exact Zs | exact Zi rfl); (intro _; dsimp only [ZB, z0, z1])) | ((first | apply WL.opN | apply WD.opN); (focus ((first | (refine SY.entryM (OpD.t rfl) (.head _) (.tail _ (.tail _ (.tail _ (.tail _ (.tail _ (.head _)))))) hj) | (refine Z7 ZBY (OpD.t rfl) (by decide)) | (refine Zp tySi (OpD.t rfl) (.tail _ (.tail _ (.head _))) rfl) | (apply SY.extract; (exact oD); rfl) | fail); all_goals infer_instance)); dsimp only [ZB, z0, z1]) | (apply ZBG; (exact oD); (with_reducible rfl)) | refine WC.skip ?_ | refine WC.block ?_ | refine ThenD.n ?_ | refine InBlockD.n ?_)); all_goals (first | ((repeat clear hK); (repeat clear Kx))))
   all_goals try (exfalso; first | contradiction | omega)
   (refine ⟨(seen.push j, _, xs ++ [M[j].1]) , ?_, by first | omega | (simp only; omega), by ((try simp only);  rfl), ?_⟩; rotate_left; ((try dsimp only [ZL, z0, z1]); repeat (first | exact LeF.nil | refine ZD (k := ?_))); (try dsimp only))
   refine ⟨?_, fun i hi => ?_, ?_⟩
   ·rw [Array.toList_push, List.nodup_append]
    exact ⟨q1, by simp, fun a ha b hb e => hns (by rw [<- List.mem_singleton.1 hb, <- e]; simpa using ha)⟩
   ·rw [Array.toList_push, List.mem_append, List.mem_singleton] at hi
    rcases hi with hi | rfl
    ·exact q2 i hi
    ·exact hj
   ·rw [q3, Array.toList_push, List.map_append, List.map_cons, List.map_nil, ZCC hj]
def partB (n : Nat) : Bool := (ZBw (2 ^ n - 1)).all fun bl => (bl.all fun b => decide (b < 32)) && (List.range n).all fun i => decide (ZA0 bl 0 (fun _ => 0) i = ZB3 bl i 0) && decide (ZB3 bl i 0 <= 31)
theorem part_ok : ∀ n, n <= 5 -> partB n = true := by
 intro n h5
 have : n = 0 \/ n = 1 \/ n = 2 \/ n = 3 \/ n = 4 \/ n = 5 := by omega
 rcases this with rfl | rfl | rfl | rfl | rfl | rfl <;> decide +kernel
theorem ZA2 {n : Nat} (h5 : n <= 5) {bl : List Nat} (hb : bl ∈ ZBw (2 ^ n - 1)) : (∀ b ∈ bl, b < 32) /\ ∀ i, i < n -> ZA0 bl 0 (fun _ => 0) i = ZB3 bl i 0 /\ ZB3 bl i 0 <= 31 := by
 have h := List.all_eq_true.1 (part_ok n h5) bl hb
 rw [Bool.and_eq_true] at h
 refine ⟨fun b hbb => of_decide_eq_true (List.all_eq_true.1 h.1 b hbb), fun i hi => ?_⟩
 have h2 := List.all_eq_true.1 h.2 i (List.mem_range.2 hi)
 rw [Bool.and_eq_true] at h2
 exact ⟨of_decide_eq_true h2.1, of_decide_eq_true h2.2⟩
theorem placeL_id {s : List Vx} (h5 : s.length <= 5) {bl : List Nat} (hb : bl ∈ ZBw (2 ^ s.length - 1)) : Zh (fun m => (m : Int)) s bl = ZAy s bl := by
 unfold Zh ZAy
 refine List.map_congr_left fun p hp => ?_
 obtain ⟨q, i⟩ := p
 have hi := (List.mem_zipIdx hp).2.1
 show (q.1, ((ZA0 bl 0 (fun _ => 0) i : Nat) : Int)) = _
 rw [((ZA2 h5 hb).2 i (by omega)).1]
theorem facB_L {s : List Vx} (h5 : s.length <= 5) : (ZBw (2 ^ s.length - 1)).map (Zh (fun m => (m : Int)) s) = ZCO s := by
 unfold ZCO
 exact List.map_congr_left fun bl hb => placeL_id h5 hb
section
variable {P : Program} {ops : Array Oper} {hp : List HObj} {fr : List Dat} {d : Dat} {Q : Z1} {rest : List Oper} {dst : Option Tmp} {ty : TypeId} {ps : String} {af : Array Edge} {T : TypeId} {ds : List Dat}
theorem WL.boxS {x : Operand} (hx : OpD fr x (dAgg ds)) (hn : 0 < ds.length) (h : ∀ b, WL P ops Q rest (ZB fr dst (dX (.pointer (some ⟨b, 0, none⟩)))) (Zm b T ds :: hp)) :
  WL P ops Q ({ dst := dst, op := .box T x, type := ty, pos := ps, after := af, guard := none } :: rest) fr hp :=
 WL.boxC (T := T) hx (shape_Agg hn rfl) fun b => WL.of fun P0 B w0 w a hh hf => by
  obtain ⟨cs, u, c1, c2, c0, c3, c4, c5⟩ := hh.ok (ZO b T ds.length true (dAgg ds)) (by simp)
  simp only [if_true] at c4
  obtain ⟨us, q1, q2, q3, q4⟩ := c5
  rw [c4] at q1
  have hcs : cs = us := by injection q1 with q1; exact List.toArray_inj q1
  subst hcs
  have hgr : w.grownBy w (ZO b T ds.length true (dAgg ds)).blk := ⟨rfl, rfl, rfl, Nat.le_refl _, fun _ _ _ => rfl⟩
  have hbd := (ZO b T ds.length true (dAgg ds)).bound (hh.ok (ZO b T ds.length true (dAgg ds)) (by simp))
  have hok : (Zm b T ds).ok (fun k => Imm P0 B (ZO b T ds.length true (dAgg ds) :: hp) k /\ k < w.heap.size) w :=
   ⟨cs, c1, c2, c3, fun k c d hc hd => d.bound (q4 k c d hc hd)⟩
  exact (h b).on (hh.write hgr (.inl rfl) hok) (hf.mono fun _ _ hd => ZI (o' := Zm b T ds) hgr (.inl rfl) hd)
theorem WL.valsNil {K α : Type} (R : Rel α) [Good R] (h : WL P ops Q rest fr (ZAL (K := K) R [] :: hp)) : WL P ops Q rest fr hp := WL.of fun P0 B w0 w a hh hf => by
 have hg : (ZAL (K := K) R []).blk = none := rfl
 refine h.on (ZAo (l := []) hg hh (fun p hp => by cases hp)) (hf.mono fun d v hd => d.weak hd fun k => (Zl hg [] k).2)
end
theorem SY.mkB1 {ops : Array Oper} {hp : List HObj} {fr : List Dat} {dst : Option Tmp} {ty : TypeId} {ps : String} {af : Array Edge} {g : Option (Nat × Bool)} {x : Operand} {bm : Nat} (hx : OpD fr x (dX (.map (some bm)))) : SY Tryz.prog ops hp { dst := dst, op := .build 74 #[(1, x)], type := ty, pos := ps, after := af, guard := g } fr (dAgg [dX (.slice none 0 0), dX (.map (some bm))]) := SY.val fun {I w a} ho => by
 have h1 : a.eval x = .map (some bm) := hx.get (by simp [Op.operands]) ho
 have hm : ∀ w, (Instr.build 74 #[(1, .map (some bm))]).run Tryz.prog w = .ok (.agg #[.slice none 0 0, .map (some bm)]) w := by intro w; go_simp
 refine ⟨.agg #[.slice none 0 0, .map (some bm)], ?_, [_, _], rfl, rfl, by simp [Value.oneCell'], fun k c d hc hd => ?_⟩
 ·unfold execOp
  simp only [List.map_toArray, List.map_cons, List.map_nil, h1, Sem.run_bind, hm, Result.andThen_ok, Sem.run_pure]
 ·match k, hc, hd with
  | 0, hc, hd => cases hc; cases hd; rfl
  | 1, hc, hd => cases hc; cases hd; rfl
theorem facB_in {s : List Vx} (hs : Zn s = 0) (h5 : s.length <= 5) {bl : List Nat} (hb : bl ∈ ZBw (2 ^ s.length - 1)) (i : Nat) (h : i < (Zh (fun m => (m : Int)) s bl).length) :
  okV (Zh (fun m => (m : Int)) s bl)[i] /\ carB s (Zh (fun m => (m : Int)) s bl)[i] = atB s (ZA0 bl 0 (fun _ => 0) i) := by
 have hi : i < s.length := by rw [ZAp] at h; exact h
 rw [ZCM h hi]
 have h1 := (ZA2 h5 hb).2 i hi
 refine ⟨⟨?_, ?_⟩, ?_⟩
 ·exact (ok_vx hs _ (List.getElem_mem hi)).1
 ·show is64 _
  unfold is64
  simp only
  omega
 ·show atB s (Int.toNat _) = _
  rw [Int.toNat_natCast]
theorem perm_4x {a b c d : HObj} {hp : List HObj} : (a :: b :: c :: d :: hp).Perm (c :: a :: d :: b :: hp) :=
 perm_r3.trans (List.Perm.cons c (List.Perm.cons a (List.Perm.swap _ _ _)))
theorem divS_c (s : List Vx) (hs : Zn s = 0) (h5 : s.length <= 5) (bs bm : Nat) : CallC Tryz.prog 36 ([dX (.pointer (some ⟨bs, 0, none⟩)), dS ZF s, dLab (fun m => m < 1048576) (fun m => (m : Int))] ++ ([] : List Value).map dX) (bldO bs bm (.slice none 0 0) [] [])
   (fun _ hp2 => ∃ fv M, Bld (ZCO s).flatten (carB s) M /\ hp2 = bldO bs bm fv (ZCO s) M) := by
 have h := divide_c bs bm (.slice none 0 0) [] [] s (fun m => m < 1048576) (fun m => (m : Int)) (carB s) (by have := (ZM.1 hs).1; omega) h5 (by simp) (Bld.nil _)
  (fun bl hb i hi => by have h1 := (ZA2 h5 hb).2 i hi; rw [h1.1]; omega) (fun bl hb b hbb => by have := (ZA2 h5 hb).1 b hbb; omega)
  (fun bl hb i hi => by have h1 := (ZA2 h5 hb).2 i hi; rw [h1.1]; omega) (fun bl hb i hi => facB_in hs h5 hb i hi)
 rw [List.nil_append, facB_L h5] at h
 exact h
theorem bld_len {L : List Vx} {car : Vx -> List Vx} {M : CarM} (h : Bld L car M) : M.length <= L.length := by
 have := List.Nodup.length_le_of_subset h.nodup (l₂ := L) fun v hv => (h.mem v).1 hv
 simpa using this
theorem facB_flat {s : List Vx} (h5 : s.length <= 5) : (ZCO s).flatten.length <= 100000 := by
 have h1 := flat_len (l := ZCO s) (fun t ht => by rw [facB_len ht]; omega)
 have h2 : (ZCO s).length <= 541 := by unfold ZCO; rw [List.length_map]; exact ord_len s.length h5
 omega
set_option maxHeartbeats 16000000 in
theorem simplex29_p (s : List Vx) : Fn Tryz.prog 30 [dS ZF s] (dT [dS SubR (subP s).1, dI (subP s).2]) := by
 have hc := chromatic_p s
 refine ZBf ZB8 Tryz.func30 rfl rfl ?_
 simp only [Tryz.ntmps30, List.length_cons, List.length_nil, Nat.reduceAdd, Nat.reduceSub, List.replicate_succ, List.replicate_zero, List.cons_append, List.nil_append]
 by_cases h0 : chroP s = 0
 ·rw [h0] at hc
  have hs : Zn s = 0 := Classical.byContradiction fun q => by unfold chroP at h0; rw [if_pos q] at h0; exact q h0
  have hd : Zy s = true := by
   unfold chroP at h0
   rw [if_neg (by simp [hs])] at h0
   cases h : Zy s
   ·rw [h] at h0; simp at h0
   ·rfl
  have h8 := ZM.1 hs
  by_cases h5 : 5 < s.length
  ·have e : subP s = (([], [], []), 5) := by unfold subP; rw [if_neg (by simp [hs]), if_neg (by simp [hd]), if_pos h5]
   rw [e]
   ((repeat' (first | (apply WL.opN; exact yF; dsimp only [ZB, z0, z1]) | refine WL.nil ?_ | refine ZA fun Kx hK => ?_ | (refine hK _ _ ?_; clear hK) | refine WC.region ?_ |  (refine WL.alloc (dst := some 2) tzSb (ZAS rfl rfl rfl) fun b2 => ?_; dsimp only [ZB, z0, z1]) |  (refine WL.storeF ZB8 rfl (OpD.t rfl) Z9 ?_; dsimp only [ZB, z0, z1]) | (apply WL.opN; (focus ((first | (apply SY.call (hc) Tryz.call68; (exact aD)) | (exact SY.mkSn) | ((first | apply SY.move | apply SY.assign | apply SY.gtr | apply SY.neq) <;> (exact oD)) | (apply SY.len; (exact oD); (exact nD); (exact uD)) | fail); all_goals infer_instance)); dsimp only [ZB, z0, z1]) | (apply ZC; (exact oD); all_goals (intro h; try exact xD)) | (apply ZH; (exact oD); all_goals (intro h; try exact xD)) | refine WC.skip ?_ | refine WC.ret ?_ | refine ThenD.r ?_)); all_goals (first | ((repeat clear hK); (repeat clear Kx))))
   all_goals try (exfalso; first | contradiction | omega)
   (refine ⟨trivial, ⟨_, rfl, ?_⟩, _, rfl, ?_⟩ <;> exact fD)
  ·have h5' : s.length <= 5 := by omega
   obtain ⟨o1, o2, o3⟩ := fac_of hs hd h5'
   have e : subP s = ((maxC (ZCO s), ZBF [] (ZCO s).flatten, (ZBF [] (ZCO s).flatten).map (carB s)), 0) := by unfold subP; rw [if_neg (by simp [hs]), if_neg (by simp [hd]), if_neg h5]
   rw [e]
   have hfl := facB_flat h5'
   ((repeat' (first | (apply WL.opN; exact yF; dsimp only [ZB, z0, z1]) | refine WL.nil ?_ | refine ZA fun Kx hK => ?_ | (refine hK _ _ ?_; clear hK) | refine WC.region ?_ |  (refine WL.alloc (dst := some 2) tzSb (ZAS rfl rfl rfl) fun b2 => ?_; dsimp only [ZB, z0, z1]) |  (refine WL.makeMap kvV (fun u : Value × List Vx => u.1) fun bm => ?_; dsimp only [ZB, z0, z1]) |  (refine WL.boxS (OpD.t rfl) (by simp) fun bs => ?_; dsimp only [ZB, z0, z1]) |  (refine WL.valsNil (K := Vx) ZF (ZAk 28 ZF (WL.perm perm_4x ?_)); refine WL.callC (hp1 := bldO bs bm (.slice none 0 0) [] []) (caps := []) (divS_c s hs h5' bs bm) Tryz.call36 OpD.f (ArgsD.cons (OpD.t rfl) (ArgsD.cons (OpD.t rfl) (ArgsD.cons ⟨le_fun Tryz.call70 fun m => itself_p ((m.1 : Nat) : Int)⟩ ArgsD.nil))) ?_; rintro d' hp2 ⟨fv, M, hB, rfl⟩; dsimp only [ZB, z0, z1, List.cons_append, List.nil_append]; refine WL.keepS (k := 0) rfl ?_; dsimp only [z0, z1]) |  (refine WL.callC (hp1 := [_, _, _]) (caps := []) (done_c bs bm (ZCO s) (maxC (ZCO s)) (ZCO s).flatten (carB s) M o1 hB (Nat.le_trans (bld_len hB) hfl) (fun p hp => by rw [hB.car p hp]; have := atB_len s p.1.2.toNat; unfold carB; omega)) Tryz.call40 OpD.f (ArgsD.cons (OpD.t rfl) ArgsD.nil) ?_; rintro d' hp2 ⟨rfl, rfl⟩; dsimp only [ZB, z0, z1, List.cons_append, List.nil_append]) |  (refine WL.storeF ZB8 rfl (OpD.t rfl) Z9 ?_; dsimp only [ZB, z0, z1]) | (apply WL.opN; (focus ((first | (apply SY.call (hc) Tryz.call68; (exact aD)) | (exact SY.mkB1 (OpD.t rfl)) | ((first | apply SY.move | apply SY.assign | apply SY.gtr | apply SY.neq) <;> (exact oD)) | (apply SY.len; (exact oD); (exact nD); (exact uD)) | (apply SY.extract; (exact oD); rfl) | fail); all_goals infer_instance)); dsimp only [ZB, z0, z1]) | (apply ZC; (exact oD); all_goals (intro h; try exact xD)) | (apply ZH; (exact oD); all_goals (intro h; try exact xD)) | refine WC.skip ?_ | refine WC.ret ?_)); all_goals (first | ((repeat clear hK); (repeat clear Kx))))
   all_goals try (exfalso; first | contradiction | omega)
   (refine ⟨trivial, ⟨_, rfl, ?_⟩, _, rfl, ?_⟩ <;> exact fD)
 ·have e : subP s = (([], [], []), chroP s) := by
   unfold subP chroP
   by_cases h1 : Zn s ≠ 0
   ·rw [if_pos h1, if_pos h1]
   ·rw [if_neg h1, if_neg h1]
    have hd : Zy s = false := by
     unfold chroP at h0
     rw [if_neg h1] at h0
     cases h : Zy s
     ·rfl
     ·rw [h] at h0; exact absurd rfl h0
    rw [if_pos hd, hd]; rfl
  rw [e]
  ((repeat' (first | (apply WL.opN; exact yF; dsimp only [ZB, z0, z1]) | refine WL.nil ?_ | refine ZA fun Kx hK => ?_ | (refine hK _ _ ?_; clear hK) | refine WC.region ?_ |  (refine WL.alloc (dst := some 2) tzSb (ZAS rfl rfl rfl) fun b2 => ?_; dsimp only [ZB, z0, z1]) |  (refine WL.storeF ZB8 rfl (OpD.t rfl) Z9 ?_; dsimp only [ZB, z0, z1]) | (apply WL.opN; (focus ((first | (apply SY.call (hc) Tryz.call68; (exact aD)) | (exact SY.mkSn) | ((first | apply SY.move | apply SY.assign | apply SY.gtr | apply SY.neq) <;> (exact oD)) | fail); all_goals infer_instance)); dsimp only [ZB, z0, z1]) | (apply ZH; (exact oD); all_goals (intro h; try exact xD)) | refine WC.ret ?_ | refine ThenD.r ?_)); all_goals (first | ((repeat clear hK); (repeat clear Kx))))
  all_goals first | (refine ⟨trivial, ⟨_, rfl, ?_⟩, _, rfl, ?_⟩ <;> exact fD) | (exfalso; first | contradiction | omega)
end
end Go.Proofs.YtmcllakdbgnfiaaGreatDoor
