/- Part 43: walks by contracts, and plain laws. -/
import Derived.Test.YtmcllakdbgnfiaaGreatDoorVg42
set_option linter.unusedVariables false
set_option linter.unusedSimpArgs false
set_option linter.unusedSectionVars false
set_option maxRecDepth 100000
set_option maxHeartbeats 4000000
namespace Go.Proofs.YtmcllakdbgnfiaaGreatDoor
section
def nextR (d : Sub) : Sub := ((whlW (Z3 d.1) d.1).1, (whlW (Z3 d.1) d.1).2.map (·.1), ((whlW (Z3 d.1) d.1).2.map (·.2)).map (unR d.2.1 d.2.2))
def itR (l : Cx) : Nat -> Sub
 | 0 => (l, ZB9 l, (ZB9 l).map fun v => [v])
 | i + 1 => nextR (itR l i)
theorem diff_map : ∀ {f s : List Vx}, (f.map fun v => v.1) = (s.map fun v => v.1) -> Zy f = Zy s
 | [], [], _ => rfl
 | [], _ :: _, h => by cases h
 | _ :: _, [], h => by cases h
 | [_], [_], _ => rfl
 | [_], _ :: _ :: _, h => by simp at h
 | _ :: _ :: _, [_], h => by simp at h
 | a :: b :: f, c :: e :: s, h => by
  simp only [List.map_cons, List.cons.injEq] at h
  have ih := diff_map (f := b :: f) (s := e :: s) (by simp [h.2.1, h.2.2])
  show (if a.1 = b.1 then false else Zy (b :: f)) = (if c.1 = e.1 then false else Zy (e :: s))
  rw [ih, h.1, h.2.1]
theorem fub13 : ∀ n : Fin 4, fubN n.val <= 13 := by decide
theorem sumU13 : ∀ {l : Cx}, (∀ s ∈ l, s.length <= 3) -> sumU l <= 13 * l.length
 | [], _ => by simp [sumU]
 | s :: l, h => by
  have ih := sumU13 fun t ht => h t (List.mem_cons_of_mem s ht)
  have h1 := fub13 ⟨s.length, by have := h s (by simp); omega⟩
  simp only at h1
  unfold sumU at ih ⊢
  simp only [List.map_cons, List.sum_cons, List.length_cons]
  omega
section
variable {l : Cx} (hg : ∀ s ∈ l, Zn s = 0) (h5 : ∀ s ∈ l, s.length <= 5)
include hg h5
theorem car_face {u : Vx} (hu : u ∈ (ZBB (Z3 l) l).flatten) : carW (Z3 l) u ∈ ZCN l := by
 obtain ⟨f, hf, hu⟩ := List.mem_flatten.1 hu
 obtain ⟨s, hs, bl, hbl, e⟩ := ZCP hg h5 hf
 rw [e] at hu
 obtain ⟨v, hv, rfl⟩ := List.mem_map.1 hu
 rw [car_lab hg h5 hs (List.mem_map_of_mem hbl) hv]
 obtain ⟨i, hi, rfl⟩ := List.mem_iff_getElem.1 hv
 have hi' : i < s.length := by rw [Zj] at hi; exact hi
 rw [ZAr]
 unfold carB
 simp only [Int.toNat_natCast]
 exact ZCd hg h5 hs hbl hi'
theorem facW_col {f : List Vx} (hf : f ∈ ZBB (Z3 l) l) : ∃ s ∈ l, f.length = s.length /\ (f.map fun v => v.1) = s.map fun v => v.1 := by
 obtain ⟨s, hs, bl, hbl, e⟩ := ZCP hg h5 hf
 refine ⟨s, hs, by rw [e, List.length_map, Zj], ?_⟩
 rw [e, List.map_map]
 exact place_color s bl
end
structure OkI (n : Nat) (d : Sub) : Prop where
 good : GoodX d.1
 three : ∀ s ∈ d.1, s.length <= 3
 few : d.1.length <= n
 pts : d.2.1 = ZB9 d.1
 len : d.2.2.length = d.2.1.length
 cars : ∀ c ∈ d.2.2, Zn c = 0 /\ c.length <= 3
 un : ∀ s ∈ ZCN d.1, (unR d.2.1 d.2.2 s).length <= 3
theorem one_len {V : List Vx} {s : List Vx} (_ : ∀ v ∈ s, v ∈ V) : ∀ x ∈ unR V (V.map fun v => [v]) s, x ∈ s := fun x hx => by
 obtain ⟨k, h1, h2, h3, h4⟩ := ZB6.1 hx
 rw [List.getElem_map, List.mem_singleton] at h4
 rw [h4]; exact h3
theorem un_sub {V : List Vx} {C : Cx} {s t : List Vx} (h : ∀ x ∈ unR V C s, x ∈ t) : (unR V C s).length <= t.length :=
 List.Nodup.length_le_of_subset (asc_nodup (unR_asc V C s)) h
theorem chk_one' {l : Cx} (hg : ∀ s ∈ l, Zn s = 0) {v : Vx} (hv : v ∈ ZB9 l) : Zn [v] = 0 := by
 obtain ⟨s, hs, h1⟩ := ZAI.1 hv
 exact ZM.2 ⟨by simp, by simp, fun x hx => by rw [List.mem_singleton.1 hx]; exact (ZM.1 (hg s hs)).2.2.1 v h1, by simp [Asc]⟩
theorem okI_zero {l : Cx} (h0 : ZAn l = 0) (h3 : ∀ s ∈ l, s.length <= 3) {n : Nat} (hl : l.length <= n) : OkI n (itR l 0) where
 good := Zg.1 h0
 three := h3
 few := hl
 pts := rfl
 len := List.length_map ..
 cars := fun c hc => by
  obtain ⟨v, hv, rfl⟩ := List.mem_map.1 hc
  exact ⟨chk_one' (Zg.1 h0).2.2.1 hv, by simp⟩
 un := fun s hs => by
  obtain ⟨f, hf, hne, hsub⟩ := ZA4.1 hs
  have := un_sub (one_len (V := ZB9 l) fun v hv => ZAI.2 ⟨f, hf, hsub.subset hv⟩)
  have := hsub.length_le
  have := h3 f hf
  exact Nat.le_trans (un_sub (one_len (V := ZB9 l) fun v hv => ZAI.2 ⟨f, hf, hsub.subset hv⟩)) (by omega)
theorem un_chk {n : Nat} {d : Sub} (hd : OkI n d) {s : List Vx} (hs : s ∈ ZCN d.1) : Zn (unR d.2.1 d.2.2 s) = 0 := by
 have h8 := hd.un s hs
 obtain ⟨f, hf, hne, hsub⟩ := ZA4.1 hs
 refine ZM.2 ⟨fun e => ?_, by omega, fun v hv => ?_, unR_asc _ _ _⟩
 ·obtain ⟨v, hv⟩ := List.exists_mem_of_ne_nil s hne
  have hp : v ∈ d.2.1 := by rw [hd.pts]; exact ZAI.2 ⟨f, hf, hsub.subset hv⟩
  obtain ⟨k, hk, rfl⟩ := List.mem_iff_getElem.1 hp
  have hk' : k < d.2.2.length := by rw [hd.len]; exact hk
  have hc := (ZM.1 (hd.cars _ (List.getElem_mem hk')).1).1
  obtain ⟨x, hx⟩ := List.exists_mem_of_ne_nil d.2.2[k] (fun q => hc (by rw [q]; rfl))
  have : x ∈ unR d.2.1 d.2.2 s := ZB6.2 ⟨k, hk, hk', hv, hx⟩
  rw [List.length_eq_zero_iff.1 e] at this
  cases this
 ·obtain ⟨k, hk, hk', _, h2⟩ := ZB6.1 hv
  exact (ZM.1 (hd.cars _ (List.getElem_mem hk')).1).2.2.1 v h2
theorem un_eq {n : Nat} {d : Sub} (hd : OkI n d) {s : List Vx} (hs : s ∈ ZCN d.1) : unP d.2.1 d.2.2 s = unR d.2.1 d.2.2 s := by
 rw [unP_is (hd.pts ▸ ptsC_asc d.1) hd.len fun c hc => (hd.cars c hc).1, if_neg (by have := hd.un s hs; omega)]
theorem nextR_is {n : Nat} {d : Sub} (hd : OkI n d) : nextR d = (maxC (ZBB (Z3 d.1) d.1), ZBF [] (ZBB (Z3 d.1) d.1).flatten, (ZBF [] (ZBB (Z3 d.1) d.1).flatten).map fun u => unR d.2.1 d.2.2 (carW (Z3 d.1) u)) := by
 have h5 : ∀ s ∈ d.1, s.length <= 5 := fun s hs => by have := hd.three s hs; omega
 unfold nextR
 rw [whl_is hd.good.2.2.1 h5 hd.good]
 simp only [List.map_map]
 congr 1
 congr 1
 exact List.map_id' _
theorem whl_zero {n : Nat} {d : Sub} (hd : OkI n d) (hn : 13 * n <= 4096) (hc : ∀ s ∈ d.1, Zy s = true) : whlE d.1 = 0 := by
 have h1 := sumU13 hd.three
 have h2 := hd.few
 unfold whlE
 rw [if_neg (by rw [List.all_eq_true.2 hc]; decide), if_neg (by
  rw [List.any_eq_false.2 fun s hs => by have := hd.three s hs; simp; omega]; decide), if_neg (by omega)]
theorem max_sub (F : Cx) : (maxC F).length <= F.length := max_len F
theorem facW_len {l : Cx} (hg : ∀ s ∈ l, Zn s = 0) (h5 : ∀ s ∈ l, s.length <= 5) : (ZBB (Z3 l) l).length = sumU l := by
 rw [<- chrF_same hg h5, ZBy h5]
theorem max_mem {l : Cx} (hg : ∀ s ∈ l, Zn s = 0) (h5 : ∀ s ∈ l, s.length <= 5) (hG : GoodX l) {f : List Vx} : f ∈ maxC (ZBB (Z3 l) l) ↔ f ∈ ZBB (Z3 l) l := by
 rw [ZCc]
 refine ⟨fun h => h.1, fun h => ⟨h, ?_⟩⟩
 unfold topC
 rw [facW_free hg h5 hG h]
 obtain ⟨s, hs, e, _⟩ := facW_col hg h5 h
 have := (ZM.1 (hg s hs)).1
 rw [decide_eq_true (by omega)]; rfl
theorem okI_next {n : Nat} {d : Sub} (hd : OkI n d) (hn : 13 * n <= 4096) (hc : ∀ s ∈ d.1, Zy s = true) {t : List Vx} (ht : t.length <= 3) (hin : ∀ c ∈ d.2.2, ∀ x ∈ c, x ∈ t) :
  OkI (13 * n) (nextR d) /\ (∀ s ∈ (nextR d).1, Zy s = true) /\ ∀ c ∈ (nextR d).2.2, ∀ x ∈ c, x ∈ t := by
 have hg := hd.good.2.2.1
 have h5 : ∀ s ∈ d.1, s.length <= 5 := fun s hs => by have := hd.three s hs; omega
 have hm := fun f => max_mem hg h5 hd.good (f := f)
 have hU := fun s (hs : s ∈ ZCN d.1) => un_chk hd hs
 have hfl := facW_len hg h5
 have h13 := sumU13 hd.three
 have hmx := max_sub (ZBB (Z3 d.1) d.1)
 have hfw := hd.few
 have hV : ZBF [] (ZBB (Z3 d.1) d.1).flatten = ZB9 (maxC (ZBB (Z3 d.1) d.1)) := by
  refine ZCa (ZCf (by simp [Asc])) (ptsC_asc _) fun x => ?_
  rw [ZAq, ZAI, List.mem_flatten]
  constructor
  ·rintro (q | ⟨f, hf, hx⟩)
   ·cases q
   ·exact ⟨f, (hm f).2 hf, hx⟩
  ·rintro ⟨f, hf, hx⟩
   exact .inr ⟨f, (hm f).1 hf, hx⟩
 have hcar : ∀ u ∈ ZBF [] (ZBB (Z3 d.1) d.1).flatten, carW (Z3 d.1) u ∈ ZCN d.1 := fun u hu => car_face hg h5 (by
  rcases ZAq.1 hu with q | q
  ·cases q
  ·exact q)
 have hun : ∀ s : List Vx, ∀ x ∈ unR d.2.1 d.2.2 s, x ∈ t := fun s x hx => by
  obtain ⟨k, hk, hk', _, h2⟩ := ZB6.1 hx
  exact hin _ (List.getElem_mem hk') x h2
 rw [nextR_is hd]
 refine ⟨?_, fun s hs => ?_, fun c hcc x hx => by
  obtain ⟨u, _, rfl⟩ := List.mem_map.1 hcc
  exact hun _ x hx⟩
 ·exact {
   good := good_max (fun f hf _ => facW_chk hg h5 hc hd.good.1 hf) (by omega)
   three := fun f hf => by
    obtain ⟨s, hs, e, _⟩ := facW_col hg h5 ((hm f).1 hf)
    have := hd.three s hs
    omega
   few := by show (maxC _).length <= 13 * n; omega
   pts := hV
   len := List.length_map ..
   cars := fun c hcc => by
    obtain ⟨u, hu, rfl⟩ := List.mem_map.1 hcc
    exact ⟨hU _ (hcar u hu), Nat.le_trans (un_sub (hun _)) ht⟩
   un := fun s _ => Nat.le_trans (un_sub fun x hx => by
    obtain ⟨k, hk, hk', _, h2⟩ := ZB6.1 hx
    simp only [List.getElem_map] at h2
    exact hun _ x h2) ht }
 ·obtain ⟨s', hs', _, e⟩ := facW_col hg h5 ((hm s).1 hs)
  rw [diff_map e]
  exact hc s' hs'
theorem next_same {n : Nat} {d : Sub} (hd : OkI n d) (hw : whlE d.1 = 0) : chrR d.1 = ((((nextR d).1, (nextR d).2.1, ((whlW (Z3 d.1) d.1).2.map (·.2)))), 0) /\ ((whlW (Z3 d.1) d.1).2.map (·.2)).map (unP d.2.1 d.2.2) = (nextR d).2.2 := by
 have h5 : ∀ s ∈ d.1, s.length <= 5 := fun s hs => by have := hd.three s hs; omega
 constructor
 ·unfold chrR whlR
  rw [if_neg (by rw [Zg.2 hd.good]; decide), if_neg (by omega)]
  rfl
 ·refine List.map_congr_left fun s hs => un_eq hd ?_
  rw [whl_is hd.good.2.2.1 h5 hd.good, List.map_map] at hs
  obtain ⟨u, hu, rfl⟩ := List.mem_map.1 hs
  refine car_face hd.good.2.2.1 h5 ?_
  rcases ZAq.1 hu with q | q
  ·cases q
  ·exact q
theorem its_one {l : Cx} (h0 : ZAn l = 0) (h3 : ∀ s ∈ l, s.length <= 3) (h1 : l.length <= 1) (hw : whlE l = 0) : ∃ t : List Vx, t.length <= 3 /\ (∀ s ∈ l, s = t) /\
  (OkI 1 (itR l 0) /\ (∀ c ∈ (itR l 0).2.2, ∀ x ∈ c, x ∈ t)) /\ (OkI 13 (itR l 1) /\ (∀ s ∈ (itR l 1).1, Zy s = true) /\ (∀ c ∈ (itR l 1).2.2, ∀ x ∈ c, x ∈ t)) /\ OkI 169 (itR l 2) /\ (∀ s ∈ (itR l 2).1, Zy s = true) /\ ∀ c ∈ (itR l 2).2.2, ∀ x ∈ c, x ∈ t := by
 have hc : ∀ s ∈ l, Zy s = true := (whl_facts hw).1
 have ht : (l.headD []).length <= 3 /\ ∀ s ∈ l, s = l.headD [] := by
  match l, h3, h1 with
  | [], _, _ => exact ⟨by simp, fun s hs => by cases hs⟩
  | [s], h3, _ => exact ⟨h3 s (by simp), fun t ht => List.mem_singleton.1 ht⟩
 have z0 : ∀ c ∈ (itR l 0).2.2, ∀ x ∈ c, x ∈ l.headD [] := fun c hcc x hx => by
  obtain ⟨v, hv, rfl⟩ := List.mem_map.1 hcc
  rw [List.mem_singleton.1 hx]
  obtain ⟨s, hs, h2⟩ := ZAI.1 hv
  rw [<- ht.2 s hs]; exact h2
 have o0 := okI_zero h0 h3 h1
 have o1 := okI_next o0 (by omega) hc ht.1 z0
 have o2 := okI_next o1.1 (by omega) o1.2.1 ht.1 o1.2.2
 exact ⟨l.headD [], ht.1, ht.2, ⟨o0, z0⟩, o1, o2⟩
end
section
open Go.RowKit
section
variable {P : Program} {ops : Array Oper} {hp : List HObj} {fr : List Dat} {dst : Option Tmp} {ty : TypeId} {ps : String} {af : Array Edge} {g : Option (Nat × Bool)} {T1 T2 : TypeId} {b k : Nat} {ds : List Dat}
theorem SY.loadSC {x : Operand} {l : Cx} (T' : TyI P T1 1 true) (hx : OpD fr x (dX (.pointer (some ⟨b, k, none⟩)))) (hm : Zm b T2 ds ∈ hp) (hk : ds[k]? = some (dS Zq l)) :
  SY P ops hp { dst := dst, op := .load T1 x, type := ty, pos := ps, after := af, guard := g } fr (dS Cpx l) := ZAC fun {P0 B w0 w a} hh ho => by
 have h1 : a.eval x = .pointer (some ⟨b, k, none⟩) := hx.get (by simp [Op.operands]) ho
 obtain ⟨c, q1, q2, q3⟩ := str_cell (hh.ok _ hm) hk
 have hc : Cells (fun _ => True) w b k 1 true (.agg #[c]) := by
  refine ⟨trivial, [c], rfl, by decide, by simp [q2], fun i c' hc => ?_, rfl⟩
  have hi : i = 0 := by
   have := (List.getElem?_eq_some_iff.1 hc).1
   simp at this; exact this
  subst hi
  cases hc
  exact q1
 refine ⟨.agg #[c], w, ?_, Ext.refl _, c, rfl, q2, q3⟩
 unfold execOp
 simp only [h1, Sem.run_bind, ZAY T' hc, Result.andThen_ok, Sem.run_pure]
end
def mixU (V : List Vx) (C C' : Cx) (j : Nat) : Cx := (C'.take j).map (unR V C) ++ C'.drop j
theorem mixU_len {V : List Vx} {C C' : Cx} {j : Nat} (h : j <= C'.length) : (mixU V C C' j).length = C'.length := by unfold mixU; simp; omega
theorem mixU_at {V : List Vx} {C C' : Cx} {j : Nat} (h : j < C'.length) (h' : j < (mixU V C C' j).length) : (mixU V C C' j)[j] = C'[j] := by
 have e : (mixU V C C' j)[j]? = some C'[j] := by
  unfold mixU
  rw [List.getElem?_append_right (by simp; omega)]
  simp [Nat.min_eq_left (Nat.le_of_lt h), h]
 exact (List.getElem?_eq_some_iff.1 e).2
theorem mixU_set {V : List Vx} {C C' : Cx} {j : Nat} (h : j < C'.length) : (mixU V C C' j).set j (unR V C C'[j]) = mixU V C C' (j + 1) := by
 unfold mixU
 have hd : C'.drop j = C'[j] :: C'.drop (j + 1) := List.drop_eq_getElem_cons h
 have hl : ((C'.take j).map (unR V C)).length = j := by simp; omega
 rw [List.set_append_right _ _ (by omega), hl, Nat.sub_self, hd, ZQ h, List.map_append, List.append_assoc]
 rfl
theorem mixU_end {V : List Vx} {C C' : Cx} {j : Nat} (h : C'.length <= j) : mixU V C C' j = C'.map (unR V C) := by
 unfold mixU
 rw [List.take_of_length_le h, List.drop_of_length_le h, List.append_nil]

end
section
open Go.RowKit
theorem gain_S {l : Cx} {P : Nat -> Prop} {w : World} {v : Value} (h : (dS Zq l).rd P w v) (q : l = [] \/ LaidIn P w) : (dS SimpsL l).rd P w v := by
 obtain ⟨a, cap, hv, h1, h2, h3⟩ := (h : Zq P w v l)
 refine ⟨a, cap, hv, h1, h2, fun k hk => ?_⟩
 obtain ⟨u, b, off, r1, r⟩ := h3 k hk
 refine ⟨u, b, off, ?_, r⟩
 rcases q with q | q
 ·rw [q] at hk; exact absurd hk (Nat.not_lt_zero _)
 ·exact gain_V r1 q
theorem laid_ofC {l : Cx} (hl : ∃ s ∈ l, s ≠ []) {P : Nat -> Prop} {w : World} {v : Value} (h : (dS CpxL l).rd P w v) : LaidIn P w := by
 obtain ⟨s, hs, hne⟩ := hl
 obtain ⟨u, _, _, h3⟩ := (h : CpxL P w v l)
 obtain ⟨a, cap, hv, h1, h2, h4⟩ := h3
 obtain ⟨k, hk, rfl⟩ := List.mem_iff_getElem.1 hs
 obtain ⟨u, b, off, r1, _⟩ := h4 k hk
 exact laid_of hne r1
section
variable {P : Program} {ops : Array Oper} {hp : List HObj} {fr : List Dat} {Q : Z1} {rest : List Oper}
theorem Fr.gainC {I : Nat -> Prop} {w : World} {a : Act} {t u : Nat} {l x : Cx} (hf : Fr I w a fr) (hs : x = [] \/ ∃ s ∈ l, s ≠ []) (hu : fr[u]? = some (dS CpxL l)) (ht : fr[t]? = some (dS Cpx x)) : Fr I w a (fr.set t (dS CpxL x)) := ⟨hf.defers, by rw [hf.size, List.length_set], fun k d hd => by
 rw [List.getElem?_set] at hd
 by_cases hk : t = k
 ·subst hk
  rw [if_pos rfl] at hd
  split at hd
  ·cases hd
   obtain ⟨v, h1, h2, h3⟩ := (hf.rd t _ ht : Cpx I w _ x)
   exact ⟨v, h1, h2, gain_S h3 (hs.imp id fun q => laid_ofC q (hf.rd u _ hu))⟩
  ·cases hd
 ·rw [if_neg hk] at hd
  exact hf.rd k d hd⟩
theorem WL.gainC {l x : Cx} (t u : Nat) (hs : x = [] \/ ∃ s ∈ l, s ≠ []) (hu : fr[u]? = some (dS CpxL l)) (ht : fr[t]? = some (dS Cpx x)) (h : WL P ops Q rest (fr.set t (dS CpxL x)) hp) : WL P ops Q rest fr hp := WL.of fun _ _ _ _ _ hh hf => h.on hh (hf.gainC hs hu ht)
end
theorem chromaticO_p (l : Cx) (h0 : ZAn l = 0) (hw : whlE l = 0) : CallC Tryz.prog 9 [dS CpxL l] [] (fun d hp2 => ∃ vC, d = dT [dAgg [dS Zq (maxC (ZBB (Z3 l) l)), dS ZF (ZBF [] (ZBB (Z3 l) l).flatten), dX vC], dI 0] /\ hp2 = [ZU vC 28 ZF ((ZBF [] (ZBB (Z3 l) l).flatten).map (carW (Z3 l)))]) := by
 have he : chrE l = 0 := by rw [chrE_whl, if_neg (by omega)]; exact hw
 have hG := Zg.1 h0
 have hg := hG.2.2.1
 obtain ⟨hd, h5, hsum⟩ := whl_facts hw
 have hF := chrF_same hg h5
 have hFl : (ZBB (Z3 l) l).length <= 4096 := by rw [<- hF, ZBy h5]; exact hsum
 have hOf : ofP (chrF (ZBZ l) l) = (maxC (ZBB (Z3 l) l), 0) := by
  rw [hF]
  unfold ofP
  rw [if_neg (by omega), if_neg (fun q => q (errC_ok fun f hf => facW_chk hg h5 hd hG.1 hf))]
 have hfl := facR_len h5
 have := chr29_o l _ (carW (Z3 l)) he hOf (fun v => by
  unfold carW
  rw [List.getD_eq_getElem?_getD]
  cases h : (Z3 l)[v.2.toNat]? with
  | none => simp
  | some x =>
   obtain ⟨s, hs, _, hsub⟩ := ZA4.1 (ZBJ.1 (List.mem_of_getElem? h))
   have := hsub.length_le
   have := h5 s hs
   simp only [Option.getD_some]
   omega) (fun s hs bl hbl i h => by
  have hi : i < s.length := by rw [ZAp] at h; exact h
  have hf := ZCd hg h5 hs hbl hi
  have hsn := ((ZA2 (h5 s hs) hbl).2 i hi).1
  obtain ⟨j, j1, j2, j3⟩ := ZBn _ 0 _ (ZBJ.2 hf)
  rw [ZCM h hi]
  unfold chrL
  rw [hsn, num_same hg hf, j2, Nat.zero_add]
  refine ⟨⟨?_, ?_⟩, ?_⟩
  ·exact (ok_vx (hg s hs) _ (List.getElem_mem hi)).1
  ·show is64 _
   unfold is64
   have := hG.1
   simp only
   omega
  ·unfold carW
   simp only [Int.toNat_natCast]
   rw [List.getD_eq_getElem?_getD, List.getElem?_eq_getElem j1, Option.getD_some, j3])
 rw [hF] at this
 exact this
theorem it_nil : ∀ i, (itR [] i).1 = []
 | 0 => rfl
 | i + 1 => by
  show (whlW (Z3 (itR [] i).1) (itR [] i).1).1 = []
  rw [it_nil i]
  rfl
theorem it_gain {l : Cx} (h0 : ZAn l = 0) (i : Nat) : (itR l i).1 = [] \/ ∃ s ∈ l, s ≠ [] := by
 match l, h0 with
 | [], _ => exact .inl (it_nil i)
 | s :: l, h0 => exact .inr ⟨s, by simp, fun e => (ZM.1 ((Zg.1 h0).2.2.1 s (by simp))).1 (by rw [e]; rfl)⟩
theorem of_self {l : Cx} (h0 : ZAn l = 0) : ofP l = (l, 0) := by
 have hG := Zg.1 h0
 have := hG.1
 unfold ofP
 rw [if_neg (by omega), if_neg (fun q => q (errC_ok hG.2.2.1)), max_good hG]

set_option maxHeartbeats 16000000 in
theorem iterateP_p (l : Cx) (k : Nat) (h0 : ZAn l = 0) (hk : k <= 6) (hl : l.length <= 100) (hI : ∀ i, i < k -> (∃ n, OkI n (itR l i)) /\ whlE (itR l i).1 = 0) :
  Fn Tryz.prog 14 [dS CpxL l, dI (k : Int)] (dT [dS SubR (itR l k), dI 0]) := by
 have c1 := vertices27_p l hl
 rw [show vrtP l = (ZB9 l, 0) by unfold vrtP; rw [if_neg (by omega)]] at c1
 have hO := of27_p l
 rw [of_self h0] at hO
 have hgn := it_gain h0
 have hpl : (ZB9 l).length <= 100000 := by
  have h1 := flat_len (Zg.1 h0).short
  have h2 := allV_len l.flatten []
  unfold ZB9
  simp only [List.length_nil] at h2
  omega
 have hz : itR l 0 = (l, ZB9 l, (ZB9 l).map fun v => [v]) := rfl
 generalize hV : ZB9 l = V at *
 refine ZBf ZB8 Tryz.func14 rfl rfl ?_
 simp only [Tryz.ntmps14, List.length_cons, List.length_nil, Nat.reduceAdd, Nat.reduceSub, List.replicate_succ, List.replicate_zero, List.cons_append, List.nil_append]
 (repeat' (first | ((first | apply WL.opN | apply WD.opN); exact yF; dsimp only [ZB, z0, z1]) | refine WL.nil ?_ | refine ZA fun Kx hK => ?_ | (refine hK _ _ ?_; clear hK) | refine WC.region ?_ |  (refine WL.alloc (dst := some 4) tzSb (ZAS rfl rfl rfl) fun b4 => ?_; dsimp only [ZB, z0, z1]) |  (refine WL.alloc (dst := some 8) tzC (Zi rfl) fun b8 => ?_; dsimp only [ZB, z0, z1]) |  (refine WL.storeF tyC rfl (OpD.t rfl) ZAl ?_; dsimp only [ZB, z0, z1]) |  (refine WL.allocS (dst := some 10) (zs := [.slice none 0 0, .slice none 0 0, .slice none 0 0]) tzSb (by decide) (by simp [Value.oneCell']) fun b10 => ?_; dsimp only [ZB, z0, z1, List.map_cons, List.map_nil]) |  (refine WL.storeW ZB8 (OpD.t rfl) (OpD.t rfl) rfl rfl ?_; dsimp only [ZB]) | ((first | apply ZJ | apply WD.op); (focus (first | exact wN | (apply ZG; (exact wY); ((first | (exact SY.box (OpD.t rfl) (fun I w v h => ZAl I w v (ZAT I w v h))) | (apply SY.call c1 Tryz.call51; exact ArgsD.cons (OpD.tle rfl ZAT) ArgsD.nil) | (apply SY.call hO Tryz.call52; exact ArgsD.cons (OpD.tle rfl le_SL) ArgsD.nil) | (exact SY.mkS01 (OpD.t rfl) (OpD.t rfl)) | ((first | apply SY.move | apply SY.assign | apply SY.lss | apply SY.gtr | apply SY.neq) <;> (exact oD)) | (apply SY.len; (exact oD); (exact nD); (exact uD)) | (apply ZA7 cpxT; exact OpD.t rfl) | (apply Z6; (exact oD); (with_reducible rfl); (exact oD)) | (apply SY.extract; (exact oD); rfl) | fail); all_goals infer_instance)))); dsimp only [ZB, z0, z1]) | ((first | refine Zd rfl rfl rfl (fun h => ?_) (fun h => ?_) | refine Zc rfl rfl rfl (fun h => ?_) (fun h => ?_) | refine ZY rfl rfl rfl (fun h => ?_) (fun h => ?_) | refine ZAf rfl rfl rfl (fun h => ?_) (fun h => ?_) | refine ZAh rfl rfl rfl (fun h => ?_) (fun h => ?_) | refine ZAD rfl rfl rfl (fun h => ?_) (fun h => ?_)) <;> (first | (exfalso; first | omega | contradiction) | (dsimp only [z0, z1]))) | (apply ZC; (exact oD); all_goals (intro h; try exact xD)) | (apply ZH; (exact oD); all_goals (intro h; try exact xD)) | refine WC.skip ?_ | refine WC.block ?_))
 all_goals try (exfalso; first | contradiction | omega)
 refine WC.nilRow 28 ZF ?_
 (refine WC.loopU (X := Nat × Value) (fun x => [(44, dI (x.1 : Int)), (12, dA), (45, dA), (46, dA), (47, dA), (48, dA), (49, dA), (50, dA), (51, dA), (52, dA), (53, dA), (54, dA), (55, dA)]) (fun x => (ZU x.2 28 ZF ((V.take x.1).map fun v => [v]) :: Zm b10 30 [dS Zq l, dS ZF V, dX x.2] :: [ZO b4 30 3 true (dX (.agg #[.slice none 0 0, .slice none 0 0, .slice none 0 0]))])) (fun x => V.length - x.1) (fun x => x.1 <= V.length) (0, .slice none 0 0) ?start ?frame0 ?objs0 ?round)
 case start => exact Nat.zero_le _
 case frame0 => ((try dsimp only [ZL, z0, z1]); repeat (first | exact LeF.nil | refine ZD (k := ?_)))
 case objs0 => rfl
 case round =>
  rintro ⟨q, vC⟩ q1
  simp only at q1
  dsimp only [ZL, z0, z1]
  have hol : ((V.take q).map fun v => [v]).length <= 200002 := by rw [List.length_map, List.length_take]; omega
  by_cases hq : q < V.length
  ·have htk : (V.take (q + 1)).map (fun v => [v]) = (V.take q).map (fun v => [v]) ++ [[V[q]]] := by rw [List.take_succ_eq_append_getElem hq, List.map_append]; rfl
   ((repeat' (first | ((first | apply WL.opN | apply WD.opN); exact yF; dsimp only [ZB, z0, z1]) | refine WL.nil ?_ | refine ZA fun Kx hK => ?_ | (refine hK _ _ ?_; clear hK) | refine WC.region ?_ |  (refine ZCQ (.head _) fun h1 => WL.perm (List.Perm.swap _ _ _) (WL.storeS (k := 2) tySS (OpD.t rfl) (OpD.t rfl) (ZW h1) (by simp) (WL.perm (List.Perm.swap _ _ _) ?_)); dsimp only [ZB, z0, z1]) | ((first | apply WL.pushK | apply WL.push1); (exact eD); exact OpD.t rfl; (exact oD); (intro _; exact hD); (exact (by simp)); (exact (by simp)); (first | exact ⟨by decide, by decide⟩ | skip); decide; (exact lD); (intro _; dsimp only [ZB, z0, z1]); all_goals (try infer_instance)) | (apply WL.alloc; (first | exact tzV | exact tzC); (first | exact ZW rfl | exact Zs | exact Zi rfl); (intro _; dsimp only [ZB, z0, z1])) | (apply WL.storeF; (exact tD); rfl; (exact oD); (exact hD); dsimp only [ZB, z0, z1]) | ((first | apply ZJ | apply WD.op); (focus (first | exact wN | (apply ZG; (exact wY); ((first | (refine Z7 ZBY (OpD.t rfl) (by decide)) | (refine Zp tySS (OpD.t rfl) (.tail _ (.head _)) rfl) | (refine SY.ixE (R := RV) (_gR := inferInstance) elV hq rfl (OpD.t rfl) (OpD.t rfl)) | ((first | apply SY.move | apply SY.assign | apply SY.lss | apply SY.gtr | apply SY.neq) <;> (exact oD)) | ((first | apply SY.add) <;> first | exact oD | omega) | (apply SY.buildE; (exact eD); ((try simp only [List.map_cons, List.map_nil]); (repeat (first | exact ZAj | (apply ZAU; (first | exact OpD.t rfl | exact OpD.i | exact OpD.b | exact OpD.tle rfl (by first | exact ZN | exact ZK (by decide)) | exact ⟨ZN⟩ | exact ⟨ZK (by decide)⟩))))); rfl; rfl; decide; (intro _; exact ZA8); (exact (by simp))) | fail); all_goals infer_instance)))); dsimp only [ZB, z0, z1]) | (apply ZC; (exact oD); all_goals (intro h; try exact xD)) | refine WC.skip ?_ | refine WC.block ?_ | refine ThenD.n ?_)); all_goals (first | ((repeat clear hK); (repeat clear Kx))))
   all_goals try (exfalso; first | contradiction | omega)
   (refine ⟨(q + 1, _) , ?_, by first | omega | (simp only; omega), by ((try simp only);  (rw [htk])), ?_⟩; rotate_left; ((try dsimp only [ZL, z0, z1]); repeat (first | exact LeF.nil | refine ZD (k := ?_))); (try dsimp only))
   omega
  ·rw [List.take_of_length_le (by omega)]
   refine WC.perm (List.Perm.swap _ _ _) (WC.keepS (k := 2) rfl ?_)
   dsimp only [z0, z1]
   (repeat' (first | ((first | apply WL.opN | apply WD.opN); exact yF; dsimp only [ZB, z0, z1]) | refine WL.nil ?_ | refine ZA fun Kx hK => ?_ | (refine hK _ _ ?_; clear hK) | (refine Kont.skip ?_; clear hK) | refine WC.region ?_ | ((first | apply ZJ | apply WD.op); (focus (first | exact wN | (apply ZG; (exact wY); ((first | ((first | apply SY.move | apply SY.assign | apply SY.lss | apply SY.gtr | apply SY.neq) <;> (exact oD)) | fail); all_goals infer_instance)))); dsimp only [ZB, z0, z1]) | (apply ZC; (exact oD); all_goals (intro h; try exact xD)) | refine WC.exit ?_ | refine WC.block ?_))
   all_goals try (exfalso; first | contradiction | omega)
   (refine WC.loopU (X := Nat) (fun i => [(57, dI (i : Int)), (5, dA), (13, dA), (14, dA), (15, dA), (16, dA), (58, dA), (59, dA), (60, dA), (61, dA), (62, dA), (63, dA), (64, dA), (65, dA), (66, dA), (67, dA), (68, dA), (69, dA), (70, dA), (71, dA), (72, dA), (73, dA), (74, dA), (75, dA), (76, dA), (77, dA), (78, dA), (79, dA), (80, dA), (81, dA), (82, dA), (83, dA), (84, dA), (85, dA), (86, dA)]) (fun i => (Zm b10 30 [dS Zq (itR l i).1, dS ZF (itR l i).2.1, dS Zq (itR l i).2.2] :: [ZO b4 30 3 true (dX (.agg #[.slice none 0 0, .slice none 0 0, .slice none 0 0]))])) (fun i => k - i) (fun i => i <= k) 0 ?start ?frame0 ?objs0 ?round)
   case start => exact Nat.zero_le _
   case frame0 => ((try dsimp only [ZL, z0, z1]); repeat (first | exact LeF.nil | refine ZD (k := ?_)))
   case objs0 => rw [hz]
   case round =>
    rintro i i1
    dsimp only [ZL, z0, z1]
    by_cases hi : i < k
    ·obtain ⟨⟨n1, o1⟩, o2⟩ := hI i hi
     have hnx : itR l (i + 1) = nextR (itR l i) := rfl
     rw [nextR_is o1] at hnx
     have hlen := o1.len
     have hcl : ∀ c ∈ (itR l i).2.2, c.length <= 8 := fun c hc => by have := (o1.cars c hc).2; omega
     have cW := chromaticO_p (itR l i).1 (Zg.2 o1.good) o2
     have h5 : ∀ s ∈ (itR l i).1, s.length <= 5 := fun s hs => by have := o1.three s hs; omega
     have hgi := hgn i
     have hfc : ∀ s ∈ (ZBF [] (ZBB (Z3 (itR l i).1) (itR l i).1).flatten).map (carW (Z3 (itR l i).1)), s ∈ ZCN (itR l i).1 /\ s.length <= 10 := fun s hs => by
      obtain ⟨u, hu, rfl⟩ := List.mem_map.1 hs
      have h6 := car_face o1.good.2.2.1 h5 (u := u) (by
       rcases ZAq.1 hu with q | q
       ·cases q
       ·exact q)
      refine ⟨h6, ?_⟩
      obtain ⟨f, hf, _, hsub⟩ := ZA4.1 h6
      have := hsub.length_le
      have := h5 f hf
      omega
     have hC : (ZBF [] (ZBB (Z3 (itR l i).1) (itR l i).1).flatten).length <= 100000 := by
      have h6 := facW_len o1.good.2.2.1 h5
      have h7 : (ZBB (Z3 (itR l i).1) (itR l i).1).length <= 4096 := by rw [h6]; exact (whl_facts o2).2.2
      have h8 := flat_le (n := 5) (l := ZBB (Z3 (itR l i).1) (itR l i).1) fun f hf => by
       obtain ⟨s, hs, e, _⟩ := facW_col o1.good.2.2.1 h5 hf
       have := h5 s hs
       omega
      have h9 := allV_len (ZBB (Z3 (itR l i).1) (itR l i).1).flatten []
      simp only [List.length_nil] at h9
      omega
     rw [show (ZBF [] (ZBB (Z3 (itR l i).1) (itR l i).1).flatten).map (fun u => unR (itR l i).2.1 (itR l i).2.2 (carW (Z3 (itR l i).1) u)) = ((ZBF [] (ZBB (Z3 (itR l i).1) (itR l i).1).flatten).map (carW (Z3 (itR l i).1))).map (unR (itR l i).2.1 (itR l i).2.2) by rw [List.map_map]; rfl] at hnx
     have hue := fun s (hs : s ∈ ZCN (itR l i).1) => un_eq o1 hs
     rw [<- List.length_map (carW (Z3 (itR l i).1))] at hC
     generalize (ZBF [] (ZBB (Z3 (itR l i).1) (itR l i).1).flatten).map (carW (Z3 (itR l i).1)) = C' at *
     generalize ZBF [] (ZBB (Z3 (itR l i).1) (itR l i).1).flatten = V' at *
     generalize maxC (ZBB (Z3 (itR l i).1) (itR l i).1) = F' at *
     generalize itR l i = d at *
     obtain ⟨F, V1, C⟩ := d
     simp only at *
     (repeat' (first | ((first | apply WL.opN | apply WD.opN); exact yF; dsimp only [ZB, z0, z1]) | refine WL.nil ?_ | refine ZA fun Kx hK => ?_ | (refine hK _ _ ?_; clear hK) | refine WC.region ?_ |  (refine WL.gainC 61 0 hgi rfl rfl ?_; dsimp only [z0, z1]; refine WL.callC (hp1 := []) (caps := []) cW Tryz.call9 OpD.f (ArgsD.cons (OpD.t rfl) ArgsD.nil) ?_; rintro d' hp2 ⟨vD, rfl, rfl⟩; dsimp only [ZB, z0, z1, List.cons_append, List.nil_append]) |  (refine WL.allocS (dst := some 13) (zs := [.slice none 0 0, .slice none 0 0, .slice none 0 0]) tzSb (by decide) (by simp [Value.oneCell']) fun b13 => ?_; dsimp only [ZB, z0, z1, List.map_cons, List.map_nil]) |  (refine WL.storeW ZB8 (OpD.t rfl) (OpD.t rfl) rfl rfl (WL.perm (List.Perm.swap _ _ _) ?_); dsimp only [ZB]) | ((first | apply ZJ | apply WD.op); (focus (first | exact wN | (apply ZG; (exact wY); ((first | (refine Z7 ZBY (OpD.t rfl) (by decide)) | (refine SY.loadSC tyC (OpD.t rfl) (.head _) rfl) | (refine Zp tySS (OpD.t rfl) (.tail _ (.head _)) rfl) | (exact SY.lenR (OpD.t rfl) (.head _) elSi.unt) | ((first | apply SY.move | apply SY.assign | apply SY.lss | apply SY.gtr | apply SY.neq) <;> (exact oD)) | (apply SY.extract; (exact oD); rfl) | fail); all_goals infer_instance)))); dsimp only [ZB, z0, z1]) | (apply ZC; (exact oD); all_goals (intro h; try exact xD)) | (apply ZH; (exact oD); all_goals (intro h; try exact xD)) | refine WC.skip ?_ | refine WC.block ?_))
     all_goals try (exfalso; first | contradiction | omega)
     (refine WC.loopU (X := Nat) (fun j => [(72, dI (j : Int)), (15, dA), (16, dA), (73, dA), (74, dA), (75, dA), (76, dA), (77, dA), (78, dA), (79, dA), (80, dA), (81, dA), (82, dA), (83, dA), (84, dA)]) (fun j => (ZU vD 28 ZF (mixU V1 C C' j) :: Zm b13 30 [dS Zq F', dS ZF V', dX vD] :: Zm b10 30 [dS Zq F, dS ZF V1, dS Zq C] :: [ZO b4 30 3 true (dX (.agg #[.slice none 0 0, .slice none 0 0, .slice none 0 0]))])) (fun j => C'.length - j) (fun j => j <= C'.length) 0 ?start ?frame0 ?objs0 ?round)
     case start => exact Nat.zero_le _
     case frame0 => ((try dsimp only [ZL, z0, z1]); repeat (first | exact LeF.nil | refine ZD (k := ?_)))
     case objs0 => rfl
     case round =>
      rintro j j1
      dsimp only [ZL, z0, z1]
      have hml := mixU_len (V := V1) (C := C) j1
      by_cases hj : j < C'.length
      ·have hjm : j < (mixU V1 C C' j).length := by omega
       have hat := mixU_at hj hjm
       have hset := mixU_set (V := V1) (C := C) hj
       obtain ⟨hf1, hf2⟩ := hfc _ (List.getElem_mem hj)
       have cU := union29_p F V1 C C'[j] hlen hcl hf2
       rw [hue _ hf1] at cU
       generalize hm1 : mixU V1 C C' (j + 1) = m1 at *
       generalize mixU V1 C C' j = m0 at *
       ((repeat' (first |  (apply WC.drawTail 7; kernel_rfl; kernel_rfl; simp only [List.take_succ_cons, List.take_zero, List.drop_succ_cons, List.drop_zero]) | ((first | apply WL.opN | apply WD.opN); exact yF; dsimp only [ZB, z0, z1]) | refine WL.nil ?_ | refine WD.nil ?_ | refine ZA fun Kx hK => ?_ | (refine hK _ _ ?_; clear hK) | refine WC.region ?_ |  (refine WL.storeR (R := ZF) (k := j) tySi (OpD.t rfl) (OpD.t rfl) ZAs hjm ?_; rw [hset]; dsimp only [ZB, z0, z1]) | ((first | apply ZJ | apply WD.op); (focus (first | exact wN | (apply ZG; (exact wY); ((first | (refine Z7 ZBY (OpD.t rfl) (by decide)) | (refine Zp tySS (OpD.t rfl) (.tail _ (.head _)) rfl) | (refine SY.loadW ZB8 (OpD.t rfl) (.tail _ (.tail _ (.head _))) (by decide) rfl) | (refine SY.ixR (R := ZF) (_gR := inferInstance) elSi (OpD.t rfl) (.head _) (OpD.t rfl) rfl hjm) | (refine SY.loadRE (R := ZF) (_gR := inferInstance) tySi (OpD.t rfl) (.head _) hjm hat) | (apply SY.call cU Tryz.call53; exact ArgsD.cons (OpD.tle rfl agg_R3) (ArgsD.cons (OpD.t rfl) ArgsD.nil)) | ((first | apply SY.move | apply SY.assign | apply SY.lss | apply SY.gtr | apply SY.neq) <;> (exact oD)) | ((first | apply SY.add) <;> first | exact oD | omega) | fail); all_goals infer_instance)))); dsimp only [ZB, z0, z1]) | (apply ZC; (exact oD); all_goals (intro h; try exact xD)) | refine WC.skip ?_ | refine WC.block ?_ | refine ThenD.n ?_)); all_goals (first | ((repeat clear hK); (repeat clear Kx))))
       all_goals try (exfalso; first | contradiction | omega)
       (refine ⟨j + 1 , ?_, by first | omega | (simp only; omega), by ((try simp only);  rw [hm1]), ?_⟩; rotate_left; ((try dsimp only [ZL, z0, z1]); repeat (first | exact LeF.nil | refine ZD (k := ?_))); (try dsimp only))
       omega
      ·rw [mixU_end (show C'.length <= j by omega)]
       refine WC.perm (List.Perm.swap _ _ _) (WC.keepS (k := 2) rfl ?_)
       dsimp only [z0, z1]
       ((repeat' (first | ((first | apply WL.opN | apply WD.opN); exact yF; dsimp only [ZB, z0, z1]) | refine WL.nil ?_ | refine ZA fun Kx hK => ?_ | (refine hK _ _ ?_; clear hK) | (refine Kont.skip ?_; clear hK) | refine WC.region ?_ |  (refine WL.perm (List.Perm.swap _ _ _) (WL.storeW ZB8 (OpD.t rfl) (OpD.t rfl) rfl rfl (WL.perm (List.Perm.swap _ _ _) (WL.drop ?_))); dsimp only [ZB]) | ((first | apply ZJ | apply WD.op); (focus (first | exact wN | (apply ZG; (exact wY); ((first | (refine SY.loadW ZB8 (OpD.t rfl) (.head _) (by decide) rfl) | ((first | apply SY.move | apply SY.assign | apply SY.lss | apply SY.gtr | apply SY.neq) <;> (exact oD)) | ((first | apply SY.add) <;> first | exact oD | omega) | fail); all_goals infer_instance)))); dsimp only [ZB, z0, z1]) | (apply ZC; (exact oD); all_goals (intro h; try exact xD)) | refine WC.exit ?_ | refine ThenD.n ?_)); all_goals (first | ((repeat clear hK); (repeat clear Kx))))
       all_goals try (exfalso; first | contradiction | omega)
       (refine ⟨i + 1 , ?_, by first | omega | (simp only; omega), by ((try simp only);  rw [hnx]), ?_⟩; rotate_left; ((try dsimp only [ZL, z0, z1]); repeat (first | exact LeF.nil | refine ZD (k := ?_))); (try dsimp only))
       omega
    ·have hie : i = k := by omega
     subst hie
     ((repeat' (first | ((first | apply WL.opN | apply WD.opN); exact yF; dsimp only [ZB, z0, z1]) | refine WL.nil ?_ | refine ZA fun Kx hK => ?_ | (refine hK _ _ ?_; clear hK) | (refine Kont.skip ?_; clear hK) | refine WC.region ?_ |  (refine WL.storeF2 (d := dS SubR (itR l i)) ZB8 rfl (OpD.tle rfl agg_R3) Z9 ?_; dsimp only [ZB, z0, z1]) | ((first | apply ZJ | apply WD.op); (focus (first | exact wN | (apply ZG; (exact wY); ((first | (refine SY.loadW ZB8 (OpD.t rfl) (.head _) (by decide) rfl) | ((first | apply SY.move | apply SY.assign | apply SY.lss | apply SY.gtr | apply SY.neq) <;> (exact oD)) | fail); all_goals infer_instance)))); dsimp only [ZB, z0, z1]) | (apply ZC; (exact oD); all_goals (intro h; try exact xD)) | refine WC.ret ?_ | refine WC.exit ?_)); all_goals (first | ((repeat clear hK); (repeat clear Kx))))
     all_goals try (exfalso; first | contradiction | omega)
     (refine ⟨trivial, ⟨_, rfl, ?_⟩, _, rfl, ?_⟩ <;> exact fD)
end
end Go.Proofs.YtmcllakdbgnfiaaGreatDoor
