/- Part 36: walks by contracts, and plain laws. -/
import Derived.Test.YtgppfikidagfpaaGreatDoorVf35
set_option linter.unusedVariables false
set_option linter.unusedSimpArgs false
set_option linter.unusedSectionVars false
namespace Go.Proofs.YtgppfikidagfpaaGreatDoor
def pos29 (V : List Vx) (v : Vx) : Int := idxG (fun y => decide (v = y)) 0 V
theorem idx_spec {α : Type} {p : α → Bool} : ∀ (l : List α) (k : Nat), 0 ≤ idxG p k l → ∃ j, idxG p k l = ((k + j : Nat) : Int) ∧ ∃ h : j < l.length, p l[j] = true
  | [], k, h => absurd h (by unfold idxG; omega)
  | x :: l, k, h => by
    unfold idxG at h ⊢
    by_cases hx : p x = true
    · rw [if_pos hx]; exact ⟨0, by simp, by simp, by simpa using hx⟩
    · rw [if_neg hx] at h ⊢
      obtain ⟨j, h1, h2, h3⟩ := idx_spec l (k + 1) h
      exact ⟨j + 1, by rw [h1]; congr 1; omega, by simpa using h2, by simpa using h3⟩
theorem pos_spec {V : List Vx} {v : Vx} (h : 0 ≤ pos29 V v) : ∃ j : Nat, pos29 V v = (j : Int) ∧ ∃ h : j < V.length, V[j] = v := by
  obtain ⟨j, h1, h2, h3⟩ := idx_spec V 0 h
  exact ⟨j, by rw [Nat.zero_add] at h1; exact h1, h2, (of_decide_eq_true h3).symm⟩
theorem pos_nn {V : List Vx} {v : Vx} : 0 ≤ pos29 V v ↔ v ∈ V := by
  have h := idxG_iff (p := fun y => decide (v = y)) V 0
  have e : (0 ≤ pos29 V v) ↔ decide (0 ≤ idxG (fun y => decide (v = y)) 0 V) = true := by rw [decide_eq_true_eq]; rfl
  rw [e, h, List.any_eq_true]
  exact ⟨fun ⟨x, h1, h2⟩ => (of_decide_eq_true h2) ▸ h1, fun h => ⟨v, h, decide_eq_true rfl⟩⟩
end Go.Proofs.YtgppfikidagfpaaGreatDoor
namespace Go.Proofs.YtgppfikidagfpaaGreatDoor
open Go.RowKit
section
variable {P : Program} {ops : Array Oper} {hp : List HObj} {fr : List Dat} {dst : Option Tmp} {ty : TypeId} {ps : String} {af : Array Edge} {g : Option (Nat × Bool)} {x : Operand}
theorem SY.ixE1 {i : Operand} {t e : TypeId} {z : Value} {bytes : Nat} (E : ElT P t e 1 z bytes false) {α : Type} {R : Rel α} {_gR : Good R} {xs : List α} {k : Nat} {v : α} (hk : k < xs.length) (hv : xs[k] = v) (hx : OpD fr x (dS (Arr R) xs)) (hi : OpD fr i (dI (k : Int))) : SY P ops hp { dst := dst, op := .indexAddr t x i, type := ty, pos := ps, after := af, guard := g } fr (dP 1 false (dS R v)) := hv ▸ SY.ix E hx hi hk
end
set_option linter.unusedSimpArgs false

set_option maxHeartbeats 2000000
set_option maxRecDepth 100000
end Go.Proofs.YtgppfikidagfpaaGreatDoor
namespace Go.Proofs.YtgppfikidagfpaaGreatDoor
theorem bit_one {m i : Nat} : (m >>> i) &&& 1 = 1 ↔ m.testBit i = true := by
  have h : (m >>> i) &&& 1 = (m.testBit i).toNat := by
    rw [Nat.and_one_is_mod, Nat.shiftRight_eq_div_pow, Nat.toNat_testBit]
  rw [h]
  cases m.testBit i <;> decide
theorem mem_atB {s : List Vx} {m : Nat} {x : Vx} : x ∈ atB s m ↔ ∃ (i : Nat) (h : i < s.length), s[i] = x ∧ m.testBit i = true := by
  unfold atB
  rw [List.mem_map]
  constructor
  · rintro ⟨⟨v, i⟩, hp, rfl⟩
    rw [List.mem_filter, decide_eq_true_eq, bit_one] at hp
    have h := List.mem_zipIdx hp.1
    exact ⟨i, by omega, by simpa using h.2.2.symm, hp.2⟩
  · rintro ⟨i, h, rfl, hb⟩
    refine ⟨(s[i], i), ?_, rfl⟩
    rw [List.mem_filter, decide_eq_true_eq, bit_one]
    exact ⟨List.mem_zipIdx_iff_getElem?.2 (by simp [h]), hb⟩
theorem atB_subl (s : List Vx) (m : Nat) : (atB s m).Sublist s := by
  unfold atB
  have h : ((s.zipIdx.filter fun p => decide ((m >>> p.2) &&& 1 = 1)).map (·.1)).Sublist (s.zipIdx.map (·.1)) := List.Sublist.map _ List.filter_sublist
  rwa [List.zipIdx_map_fst] at h
theorem asc_nodup' {s : List Vx} (h : Asc s) : s.Nodup := List.Pairwise.imp (fun {a b} hab e => by
  subst e
  have : cmpV a a = 0 := cmpV_eq.2 rfl
  omega) h
theorem vert_is {s : List Vx} (h : GoodS s) {v : Vx} (hv : v ∈ (facB s).flatten) : ∃ (i : Nat) (hi : i < s.length) (m : Nat), v = (s[i].1, (m : Int)) ∧ m.testBit i = true ∧ 1 ≤ m ∧ m < 2 ^ s.length := by
  obtain ⟨f, hf, hvf⟩ := List.mem_flatten.1 hv
  obtain ⟨bl, hbl, rfl⟩ := List.mem_map.1 hf
  obtain ⟨i, hi, e⟩ := List.mem_iff_getElem.1 hvf
  have hi' : i < s.length := by rw [placeB_len] at hi; exact hi
  obtain ⟨a1, a2, _⟩ := fac_at h hbl hi' hi'
  rw [place_get hi hi'] at e
  have : bitB (snapB bl i 0) i = true ↔ (snapB bl i 0).testBit i = true := by
    unfold bitB
    rw [decide_eq_true_eq, bit_one]
  exact ⟨i, hi', _, e.symm, this.1 a1, a2.1, a2.2⟩
theorem car_is {s : List Vx} (h : GoodS s) {v : Vx} (hv : v ∈ (facB s).flatten) : chkV (carB s v) = 0 ∧ insideV (carB s v) s = true := by
  obtain ⟨h1, h2, h3, h4⟩ := chkV_zero.1 h.1
  obtain ⟨i, hi, m, rfl, hb, _, _⟩ := vert_is h hv
  have hs := atB_subl s m
  have e : carB s (s[i].1, (m : Int)) = atB s m := by unfold carB; rw [Int.toNat_natCast]
  have hmem : s[i] ∈ atB s m := mem_atB.2 ⟨i, hi, rfl, hb⟩
  rw [e]
  refine ⟨chkV_zero.2 ⟨fun q => ?_, by have := hs.length_le; omega, fun x hx => h3 x (hs.subset hx), List.Pairwise.sublist hs h4⟩, ?_⟩
  · rw [List.length_eq_zero_iff.1 q] at hmem; cases hmem
  · unfold insideV
    exact List.all_eq_true.2 fun x hx => decide_eq_true (hs.subset hx)
theorem ord_len4 : ∀ n, n ≤ 4 → (ordP (2 ^ n - 1)).length ≤ 75 := by
  intro n h5
  have : n = 0 ∨ n = 1 ∨ n = 2 ∨ n = 3 ∨ n = 4 := by omega
  rcases this with rfl | rfl | rfl | rfl | rfl <;> decide +kernel
theorem fac_len4 {s : List Vx} (h : GoodS s) : (maxC (facB s)).length ≤ 75 := by
  have h1 := List.Nodup.length_le_of_subset (maxC_asc (facB s)).nodup fun x hx => (mem_fac h).1 hx
  have h3 : (facB s).length = (ordP (2 ^ s.length - 1)).length := by unfold facB; rw [List.length_map]
  have := ord_len4 s.length h.2.2
  omega
end Go.Proofs.YtgppfikidagfpaaGreatDoor
namespace Go.Proofs.YtgppfikidagfpaaGreatDoor
open Go.RowKit
section
variable {ops : Array Oper} {hp : List HObj} {fr : List Dat} {dst : Option Tmp} {ty : TypeId} {ps : String} {af : Array Edge} {g : Option (Nat × Bool)} {x y : Operand}
theorem SY.eqlE {T T2 : TypeId} {p q : Int} {c : Bool} (h : decide (p = q) = c) (hx : OpD fr x (dI p)) (hy : OpD fr y (dI q)) : SY Tryz.prog ops hp { dst := dst, op := .binOp .eql T x y T2, type := ty, pos := ps, after := af, guard := g } fr (dB c) := h ▸ SY.eql hx hy
theorem SY.add00' {T T2 : TypeId} (hx : OpD fr x (dI 0)) (hy : OpD fr y (dI 0)) : SY Tryz.prog ops hp { dst := dst, op := .binOp .add T x y T2, type := ty, pos := ps, after := af, guard := g } fr (dI 0) := SY.add hx hy (by omega)
end
set_option linter.unusedSimpArgs false

set_option maxHeartbeats 2000000
set_option maxRecDepth 100000
end Go.Proofs.YtgppfikidagfpaaGreatDoor
namespace Go.Proofs.YtgppfikidagfpaaGreatDoor
def inM (F : Cx) (M k : Nat) : Cx := (F.map fun p => p.filter fun x => decide (x.2.toNat &&& M = x.2.toNat)).filter fun t => decide (t.length = k)
def sameQ (s face p q : List Vx) : Bool := decide (p.length = q.length) && (p.zip q).all fun z => decide (z.1.1 = z.2.1) && decide (carB face z.1 = carB s z.2)
def chkF (n M : Nat) : Bool :=
  let I := maxC (inM (maxC (facB (canS n))) M (atB (canS n) M).length)
  let P := maxC (facB (atB (canS n) M))
  decide (I.length = P.length) && P.all fun p => I.any fun q => sameQ (canS n) (atB (canS n) M) p q
def chkFs (n : Nat) : Bool := (List.range (2 ^ n)).all fun M => decide (M = 0) || chkF n M
theorem chkFs1 : chkFs 1 = true := by decide +kernel
theorem chkFs2 : chkFs 2 = true := by decide +kernel
theorem chkFs3 : chkFs 3 = true := by decide +kernel
theorem chkFs4 : chkFs 4 = true := by decide +kernel
theorem atB_map (f : Vx → Vx) (s : List Vx) (M : Nat) : atB (s.map f) M = (atB s M).map f := by
  unfold atB
  rw [List.zipIdx_map, List.filter_map, List.map_map, List.map_map]
  rfl
theorem can_img (s : List Vx) : (canS s.length).map (fun v => s.getD v.1.toNat (0, 0)) = s := by
  apply List.ext_getElem
  · rw [List.length_map, canS_len]
  · intro i h1 h2
    rw [List.getElem_map, canS_get]
    show s.getD (Int.toNat (i : Int)) (0, 0) = _
    rw [Int.toNat_natCast, List.getD_eq_getElem?_getD, List.getElem?_eq_getElem h2, Option.getD_some]
theorem fac_img {φ ψ : Vx → Vx} {f : List Vx} (h : ∀ v ∈ f, ∀ m : Int, φ (v.1, m) = ((ψ v).1, m)) : facB (f.map ψ) = mpC φ (facB f) := by
  unfold facB mpC
  rw [List.length_map, List.map_map]
  refine List.map_congr_left fun bl _ => ?_
  show placeB (f.map ψ) bl = (placeB f bl).map φ
  apply List.ext_getElem
  · rw [List.length_map, placeB_len, placeB_len, List.length_map]
  · intro i h1 h2
    have hi : i < f.length := by rw [placeB_len, List.length_map] at h1; exact h1
    rw [List.getElem_map, placeB_get, placeB_get, h _ (List.getElem_mem hi), List.getElem_map]
theorem inside_at {s : List Vx} (hs : s.Nodup) {a M : Nat} (ha : a < 2 ^ s.length) : insideV (atB s a) (atB s M) = decide (a &&& M = a) := by
  have key : insideV (atB s a) (atB s M) = true ↔ a &&& M = a := by
    unfold insideV
    rw [List.all_eq_true]
    constructor
    · intro h
      apply Nat.eq_of_testBit_eq
      intro i
      rw [Nat.testBit_and]
      cases hb : a.testBit i with
      | false => rfl
      | true =>
        have hi : i < s.length := by
          refine Classical.byContradiction fun hn => ?_
          rw [Nat.testBit_lt_two_pow (Nat.lt_of_lt_of_le ha (Nat.pow_le_pow_right (by decide) (by omega)))] at hb
          cases hb
        obtain ⟨j, hj, h1, h2⟩ := mem_atB.1 (of_decide_eq_true (h _ (mem_atB.2 ⟨i, hi, rfl, hb⟩)))
        rw [(List.getElem_inj hs).1 h1] at h2
        rw [h2]; rfl
    · intro h x hx
      obtain ⟨i, hi, h1, h2⟩ := mem_atB.1 hx
      refine decide_eq_true (mem_atB.2 ⟨i, hi, h1, ?_⟩)
      rw [← h, Nat.testBit_and] at h2
      simp only [Bool.and_eq_true] at h2
      exact h2.2
  cases h : insideV (atB s a) (atB s M) with
  | true => exact (decide_eq_true (key.1 h)).symm
  | false => exact (decide_eq_false fun q => by rw [key.2 q] at h; cases h).symm
def inF (s face : List Vx) : Cx := ((maxC (facB s)).map fun p => p.filter fun x => insideV (carB s x) face).filter fun t => decide (t.length = face.length)
theorem at_mod (s : List Vx) (w : Nat) : atB s w = atB s (w % 2 ^ s.length) := by
  unfold atB
  congr 1
  refine List.filter_congr fun p hp => ?_
  obtain ⟨v, i⟩ := p
  have h := List.mem_zipIdx hp
  refine decide_eq_decide.2 ?_
  rw [bit_one, bit_one, Nat.testBit_mod_two_pow, decide_eq_true (show i < s.length by omega), Bool.true_and]
theorem face_goodS {s : List Vx} (h : GoodS s) {w : Nat} (hw : atB s w ≠ []) : GoodS (atB s w) := by
  obtain ⟨h1, h2, h3, h4⟩ := chkV_zero.1 h.1
  have hs := atB_subl s w
  have hl := hs.length_le
  have h44 := h.2.2
  refine ⟨chkV_zero.2 ⟨fun q => hw (List.length_eq_zero_iff.1 q), by omega, fun x hx => h3 x (hs.subset hx), List.Pairwise.sublist hs h4⟩, ?_, by omega⟩
  have ha : AscC (atB s w) := List.Pairwise.sublist hs (ascC_of h4 h.2.1)
  have go : ∀ l : List Vx, AscC l → diffV l = true := by
    intro l
    induction l with
    | nil => intro _; rfl
    | cons a l ih =>
      intro hl
      obtain ⟨q1, q2⟩ := List.pairwise_cons.1 hl
      cases l with
      | nil => rfl
      | cons b l =>
        unfold diffV
        rw [if_neg (by have := q1 b (by simp); omega)]
        exact ih q2
  exact go _ ha
theorem faces_plain {s : List Vx} (h : GoodS s) {w : Nat} (hw : atB s w ≠ []) : (maxC (inF s (atB s w))).length = (maxC (facB (atB s w))).length ∧ ∀ p ∈ maxC (facB (atB s w)), (maxC (inF s (atB s w))).any (sameQ s (atB s w) p) = true := by
  obtain ⟨h1, h2, h3, h4⟩ := chkV_zero.1 h.1
  have h44 := h.2.2
  have hnd := asc_nodup' h4
  obtain ⟨φ, hφ, hl, hp, hF⟩ := can_map (ascC_of h4 h.2.1)
  rw [at_mod s w] at *
  have hM : w % 2 ^ s.length < 2 ^ s.length := Nat.mod_lt _ (Nat.two_pow_pos _)
  generalize w % 2 ^ s.length = M at *
  have hM0 : M ≠ 0 := fun e => hw (by
    rw [e]
    cases hc : atB s 0 with
    | nil => rfl
    | cons x l =>
      obtain ⟨i, _, _, q⟩ := mem_atB.1 (show x ∈ atB s 0 by rw [hc]; simp)
      rw [Nat.zero_testBit] at q; cases q)
  have hck : chkF s.length M = true := by
    have hfs : chkFs s.length = true := by
      have : s.length = 1 ∨ s.length = 2 ∨ s.length = 3 ∨ s.length = 4 := by omega
      rcases this with e | e | e | e <;> rw [e]
      · exact chkFs1
      · exact chkFs2
      · exact chkFs3
      · exact chkFs4
    have := List.all_eq_true.1 hfs M (List.mem_range.2 hM)
    rw [decide_eq_false hM0, Bool.false_or] at this
    exact this
  have himg := can_img s
  generalize hψ : (fun v : Vx => s.getD v.1.toNat (0, 0)) = ψ at *
  have hψi : ∀ (i : Nat) (hi : i < s.length) (m : Int), ψ ((i : Int), m) = s[i] := fun i hi m => by
    rw [← hψ]
    show s.getD (Int.toNat (i : Int)) (0, 0) = _
    rw [Int.toNat_natCast, List.getD_eq_getElem?_getD, List.getElem?_eq_getElem hi, Option.getD_some]
  have hcan : ∀ v ∈ canS s.length, ∃ i : Nat, i < s.length ∧ v = ((i : Int), 0) := fun v hv => by
    obtain ⟨i, hi, rfl⟩ := List.mem_iff_getElem.1 hv
    exact ⟨i, by rw [canS_len] at hi; exact hi, canS_get hi⟩
  have hφψ : ∀ v ∈ canS s.length, ∀ m : Int, φ (v.1, m) = ((ψ v).1, m) := fun v hv m => by
    obtain ⟨i, hi, rfl⟩ := hcan v hv
    rw [hψi i hi]
    exact hp i m hi
  have hface : atB s M = (atB (canS s.length) M).map ψ := by rw [← atB_map, himg]
  have hFs : maxC (facB s) = mpC φ (maxC (facB (canS s.length))) := by rw [hF, nat_max hφ]
  have hFf : maxC (facB (atB s M)) = mpC φ (maxC (facB (atB (canS s.length) M))) := by
    rw [hface, fac_img fun v hv m => hφψ v ((atB_subl _ _).subset hv) m, nat_max hφ]
  have hlen : (atB s M).length = (atB (canS s.length) M).length := by rw [hface, List.length_map]
  have hI : inF s (atB s M) = mpC φ (inM (maxC (facB (canS s.length))) M (atB (canS s.length) M).length) := by
    unfold inF inM
    have hfilt : ((maxC (facB s)).map fun p => p.filter fun x => insideV (carB s x) (atB s M)) = mpC φ ((maxC (facB (canS s.length))).map fun p => p.filter fun x => decide (x.2.toNat &&& M = x.2.toNat)) := by
      unfold mpC
      rw [List.map_map]
      have e : maxC (facB s) = (maxC (facB (canS s.length))).map (List.map φ) := hFs
      rw [e, List.map_map]
      refine List.map_congr_left fun p hp' => ?_
      show ((p.map φ).filter _) = (p.filter _).map φ
      rw [List.filter_map]
      congr 1
      refine List.filter_congr fun x hx => ?_
      show insideV (carB s (φ x)) (atB s M) = _
      unfold carB
      rw [hl]
      have hx' : φ x ∈ (facB s).flatten := List.mem_flatten.2 ⟨p.map φ, (mem_fac h).1 (by rw [hFs]; exact List.mem_map_of_mem hp'), List.mem_map_of_mem hx⟩
      obtain ⟨i, hi, m, e, _, _, hm⟩ := vert_is h hx'
      have e2 : x.2.toNat = m := by rw [← hl x, e, Int.toNat_natCast]
      rw [e2]
      exact inside_at hnd hm
    rw [hfilt, hlen]
    unfold mpC
    rw [List.filter_map]
    congr 1
    refine List.filter_congr fun t _ => ?_
    show decide ((t.map φ).length = _) = _
    rw [List.length_map]
  have hImax : maxC (inF s (atB s M)) = mpC φ (maxC (inM (maxC (facB (canS s.length))) M (atB (canS s.length) M).length)) := by rw [hI, nat_max hφ]
  unfold chkF at hck
  simp only [Bool.and_eq_true, decide_eq_true_eq] at hck
  obtain ⟨k1, k2⟩ := hck
  rw [hImax, hFf]
  refine ⟨by rw [List.length_map, List.length_map]; exact k1, fun p hp' => ?_⟩
  obtain ⟨p0, hp0, rfl⟩ := List.mem_map.1 hp'
  obtain ⟨q0, hq0, hs⟩ := List.any_eq_true.1 (List.all_eq_true.1 k2 p0 hp0)
  refine List.any_eq_true.2 ⟨q0.map φ, List.mem_map_of_mem hq0, ?_⟩
  unfold sameQ at hs ⊢
  rw [List.length_map, List.length_map]
  simp only [Bool.and_eq_true] at hs ⊢
  refine ⟨hs.1, ?_⟩
  rw [List.zip_map, List.all_map]
  refine List.all_eq_true.2 fun z hz => ?_
  have hz0 := List.all_eq_true.1 hs.2 z hz
  simp only [Bool.and_eq_true, decide_eq_true_eq] at hz0
  obtain ⟨c1, c2⟩ := hz0
  show (decide ((φ z.1).1 = (φ z.2).1) && decide (carB (atB s M) (φ z.1) = carB s (φ z.2))) = true
  have d1 : (φ z.1).1 = (φ z.2).1 := by
    obtain ⟨y1, y2⟩ := z
    obtain ⟨a, b⟩ := y1
    obtain ⟨a', b'⟩ := y2
    have hz1 : (a, b) ∈ p0 := (List.of_mem_zip hz).1
    have hpf : p0 ∈ facB (atB (canS s.length) M) := (maxC_mem.1 hp0).1
    obtain ⟨bl, _, rfl⟩ := List.mem_map.1 hpf
    obtain ⟨k, hk, e⟩ := List.mem_iff_getElem.1 hz1
    rw [placeB_get] at e
    have hk' : k < (atB (canS s.length) M).length := by rw [placeB_len] at hk; exact hk
    have hm := (atB_subl (canS s.length) M).subset (List.getElem_mem hk')
    have ha : (((atB (canS s.length) M)[k])).1 = a := congrArg Prod.fst e
    have g1 := hφψ _ hm b
    have g2 := hφψ _ hm b'
    rw [ha] at g1 g2
    have c1' : a = a' := c1
    subst c1'
    show (φ (a, b)).1 = (φ (a, b')).1
    rw [g1, g2]
  have d2 : carB (atB s M) (φ z.1) = carB s (φ z.2) := by
    unfold carB at c2 ⊢
    rw [hl, hl, hface, atB_map, c2, ← atB_map, himg]
  rw [decide_eq_true d1, decide_eq_true d2]
  rfl
end Go.Proofs.YtgppfikidagfpaaGreatDoor
namespace Go.Proofs.YtgppfikidagfpaaGreatDoor
open Go.RowKit
set_option linter.unusedSimpArgs false

set_option maxHeartbeats 2000000
set_option maxRecDepth 100000
set_option maxHeartbeats 4000000 in
theorem at29_c (s : List Vx) (m : Nat) (hs : s.length ≤ 60) (hm : m < 1048576) : Fn Tryz.prog 28 [dS Verts s, dI (m : Int)] (dS Verts (atB s m)) := by
  (refine Fn.intro1 Tryz.func28 rfl rfl ?_; simp only [Tryz.ntmps28, List.length_cons, List.length_nil, Nat.reduceAdd, Nat.reduceSub, List.replicate_succ, List.replicate_zero, List.cons_append, List.nil_append])
  (repeat' (first | (apply WL.opN; exact yF; dsimp only [setD, z0, z1]) | refine WL.nil ?_ | refine WC.seqK fun Kx hK => ?_ | (refine hK _ _ ?_; clear hK) | refine WC.region ?_ | refine WC.block ?_))
  refine WC.nilRowK 52 2 (by decide) RV ?_
  (refine WC.loopU (X := Nat × Value) (fun x => [(5, dX x.2), (6, dI (x.1 : Int)), (7, dA), (8, dA), (9, dA), (10, dA), (11, dA), (12, dA), (13, dA), (14, dA), (15, dA), (16, dA), (17, dA), (18, dA), (19, dA), (20, dA), (21, dA), (22, dA), (23, dA), (24, dA)]) (fun x => [hRowK x.2 52 2 RV (atB (s.take x.1) m)]) (fun x => s.length - x.1) (fun x => x.1 ≤ s.length) (0, .slice none 0 0) ?start ?frame0 ?objs0 ?round)
  case start => simp
  case frame0 => ((try dsimp only [upds, z0, z1]); repeat (first | exact LeF.nil | refine LeF.co (k := ?_)))
  case objs0 => rfl
  case round =>
    rintro ⟨k, u⟩ h1
    dsimp only [upds, z0, z1]
    simp only at h1
    have h2 : (atB (s.take k) m).length ≤ 1000 := by
      have := atB_len (s.take k) m
      rw [List.length_take] at this
      omega
    by_cases hk : k < s.length
    · cases hb : bitB m k with
      | true =>
        have hcond := bitB_iff.2 hb
        ((repeat' (first | (apply WL.opN; exact yF; dsimp only [setD, z0, z1]) | refine WL.nil ?_ | refine WC.seqK fun Kx hK => ?_ | (refine hK _ _ ?_; clear hK) | refine WC.region ?_ | ((first | apply WL.pushK | apply WL.push1); (exact eD); exact OpD.t rfl; (exact oD); (intro _; exact hD); (exact (by simp)); (exact (by simp)); (first | exact ⟨by decide, by decide⟩ | skip); decide; (exact lD); (intro _; dsimp only [setD, z0, z1]); all_goals (try infer_instance)) | (apply WL.opN; (focus ((first | (refine SY.shrN (a := m) (b := k) (by omega) (OpD.t rfl) (OpD.t rfl)) | (refine SY.bit1 (m := m) (i := k) (by omega) (OpD.t rfl)) | ((first | apply SY.move | apply SY.assign | apply SY.lss | apply SY.eql | apply SY.and) <;> (exact oD)) | ((first | apply SY.add) <;> first | exact oD | omega) | (apply SY.len; (exact oD); (exact nD); (exact uD)) | (apply SY.ixK; (exact eD); (exact oD); (exact oD); exact kD) | fail); all_goals infer_instance)); dsimp only [setD, z0, z1]) | (apply WC.condD; (exact oD); all_goals (intro h; try exact xD)) | refine WC.skip ?_ | refine WC.block ?_ | refine ThenD.n ?_)); all_goals (first | ((repeat clear hK); (repeat clear Kx))))
        all_goals try (exfalso; first | contradiction | omega)
        (refine ⟨(k + 1, _) , ?_, by first | omega | (simp only; omega), by ((try simp only);  (rw [atB_snoc hk, if_pos hb])), ?_⟩; rotate_left; ((try dsimp only [upds, z0, z1]); repeat (first | exact LeF.nil | refine LeF.co (k := ?_))); (try dsimp only))
        omega
      | false =>
        have hcond : ¬ ((((m >>> k) &&& 1 : Nat) : Int) = 1) := fun q => by rw [bitB_iff.1 q] at hb; cases hb
        ((repeat' (first | (apply WL.opN; exact yF; dsimp only [setD, z0, z1]) | refine WL.nil ?_ | refine WC.seqK fun Kx hK => ?_ | (refine hK _ _ ?_; clear hK) | refine WC.region ?_ | (apply WL.opN; (focus ((first | (refine SY.shrN (a := m) (b := k) (by omega) (OpD.t rfl) (OpD.t rfl)) | (refine SY.bit1 (m := m) (i := k) (by omega) (OpD.t rfl)) | ((first | apply SY.move | apply SY.assign | apply SY.lss | apply SY.eql | apply SY.and) <;> (exact oD)) | ((first | apply SY.add) <;> first | exact oD | omega) | (apply SY.len; (exact oD); (exact nD); (exact uD)) | fail); all_goals infer_instance)); dsimp only [setD, z0, z1]) | (apply WC.condD; (exact oD); all_goals (intro h; try exact xD)) | refine WC.skip ?_ | refine WC.block ?_ | refine ThenD.n ?_)); all_goals (first | ((repeat clear hK); (repeat clear Kx))))
        all_goals try (exfalso; first | contradiction | omega)
        (refine ⟨(k + 1, _) , ?_, by first | omega | (simp only; omega), by ((try simp only);  (rw [atB_snoc hk, if_neg (by simp [hb]), List.append_nil])), ?_⟩; rotate_left; ((try dsimp only [upds, z0, z1]); repeat (first | exact LeF.nil | refine LeF.co (k := ?_))); (try dsimp only))
        omega
    · ((repeat' (first | (apply WL.opN; exact yF; dsimp only [setD, z0, z1]) | refine WL.nil ?_ | refine WC.seqK fun Kx hK => ?_ | (refine hK _ _ ?_; clear hK) | (refine Kont.skip ?_; clear hK) | refine WC.region ?_ | (apply WL.opN; (focus ((first | ((first | apply SY.move | apply SY.assign | apply SY.lss | apply SY.eql | apply SY.and) <;> (exact oD)) | (apply SY.len; (exact oD); (exact nD); (exact uD)) | fail); all_goals infer_instance)); dsimp only [setD, z0, z1]) | (apply WC.condD; (exact oD); all_goals (intro h; try exact xD)) | refine WC.ret ?_ | refine WC.exit ?_)); all_goals (first | ((repeat clear hK); (repeat clear Kx))))
      all_goals try (exfalso; first | contradiction | omega)
      (refine ⟨trivial, _, rfl, ?_⟩; refine FinD.rowKE (.head _) ?_)
      rw [List.take_of_length_le (by omega)]
end Go.Proofs.YtgppfikidagfpaaGreatDoor
