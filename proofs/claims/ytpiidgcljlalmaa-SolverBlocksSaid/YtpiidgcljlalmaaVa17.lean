/- Part 17: walks by contracts, and plain laws. -/
import Derived.Test.YtpiidgcljlalmaaVa16
set_option linter.unusedVariables false
set_option linter.unusedSimpArgs false
set_option linter.unusedSectionVars false
namespace Go.Proofs.Ytpiidgcljlalmaa.S43
section
variable {V : Nat} {asm : List Int} {cls : List Cl} {r : RS}
theorem back_rea {s : SS} {E : Nat → Prop} {W : Int → List Nat} (h : Inv V s W E) {l : Nat} (hl : l < s.begins.length) : ∀ z ∈ (backS s l).trail, (backS s l).rea z.natAbs = s.rea z.natAbs := by
  intro z hz
  unfold backS at hz ⊢
  rw [if_neg (by omega)] at hz ⊢
  have hd := h.tdis
  rw [← List.take_append_drop (s.begins.getD l 0) s.trail] at hd
  refine if_neg fun q => ?_
  obtain ⟨y, hy, e⟩ := List.mem_map.1 q
  exact (List.pairwise_append.1 hd).2.2 z hz y hy e.symm
theorem lev_same {s s' : SS} {W W' : Int → List Nat} {E E' : Nat → Prop} (h : Inv V s W E) (h' : Inv V s' W' E') (hb : s'.begins = s.begins) {t : List Int} (ht : s'.trail = s.trail ++ t) {x : Int} (hx : x ∈ s.trail) : s'.lev x.natAbs = s.lev x.natAbs := by
  obtain ⟨p, hp⟩ := mem_at.1 hx
  have hp' : s'.trail[p]? = some x := by rw [ht, List.getElem?_append_left (List.getElem?_eq_some_iff.1 hp).1]; exact hp
  rw [h'.lev p x hp', h.lev p x hp, hb]
theorem confl_zero {s : SS} {k : Nat} (h : CInv V s k) (hb : s.begins = []) : Conf s.list fun _ => False := by
  obtain ⟨E, w, c, hI, _, _, _, hc, _, hf⟩ := h.ex
  refine ⟨c, List.mem_of_getElem? hc, fun y hy => der_zero' hI _ (hf y hy) ?_⟩
  have := hI.lev_le (hf y hy)
  rw [hb] at this
  exact Nat.le_zero.1 this
theorem GInv.learn (h : GInv V asm cls r) {k : Nat} (hk : (propS (V + 1) r.s).2 = some k) (hb : (propS (V + 1) r.s).1.begins ≠ []) {o : Cl} (ho : o.Perm (learnS (propS (V + 1) r.s).1 k).1) :
    GInv V asm cls ⟨learnedS (backS (propS (V + 1) r.s).1 (learnS (propS (V + 1) r.s).1 k).2) (learnS (propS (V + 1) r.s).1 k).1, r.learned ++ [o]⟩ ∧
      meas V (asm.length + V) (learnedS (backS (propS (V + 1) r.s).1 (learnS (propS (V + 1) r.s).1 k).2) (learnS (propS (V + 1) r.s).1 k).1).begins (learnedS (backS (propS (V + 1) r.s).1 (learnS (propS (V + 1) r.s).1 k).2) (learnS (propS (V + 1) r.s).1 k).1).trail.length < meas V (asm.length + V) r.s.begins r.s.trail.length := by
  obtain ⟨kp, _, k3⟩ := prop_ok (V + 1) r.s h.inv (by omega)
  have hC := k3 k hk
  have hL := learn_ok hC hb
  generalize learnS (propS (V + 1) r.s).1 k = cl at *
  generalize (propS (V + 1) r.s).1 = s at *
  obtain ⟨c, l⟩ := cl
  simp only at *
  obtain ⟨x, rest, rfl, hx, hxl, hrest, h0, h1⟩ := hL.ex
  obtain ⟨E, w, c0, hI, _, _, hbb, _⟩ := hC.ex
  have hl := hL.lt
  obtain ⟨bi, bh, bt, bb, bl, bd, bw, blo, bhi⟩ := hI.back (fun b hb _ => hbb b hb) hl
  have brea := back_rea hI hl
  have hbl : (backS s l).begins.length = l := by rw [bb, List.length_take]; omega
  obtain ⟨li, lb, lh, ll, lt, ld, lr⟩ := bi.learned bh (x := x) (rest := rest) (bhi x hx (by omega)) (hI.trng x hx) hL.dis (fun y hy => by
    obtain ⟨q1, q2, q3⟩ := hrest y hy
    have := blo (-y) q1 (by rw [Int.natAbs_neg]; exact q3)
    rw [Int.natAbs_neg] at this
    exact ⟨this.1, by rw [this.2, hbl]; exact q3⟩) (fun q => by rw [bb, h0 q]; rfl) (fun b rr q => by
    have hbm : b ∈ rest := by rw [q]; simp
    obtain ⟨q1, q2, q3⟩ := hrest b hbm
    have := blo (-b) q1 (by rw [Int.natAbs_neg]; exact q3)
    rw [Int.natAbs_neg] at this
    rw [this.2, hbl]
    exact h1 b rr q)
  obtain ⟨t, ht⟩ := kp.trail
  have hbI := hI.bh _ (List.getElem_mem hl)
  have hbt : s.begins[l] ≤ s.trail.length := Nat.le_trans hbI hI.hl
  have htl := trail_len hI.trng hI.tdis
  have hlen : (learnedS (backS s l) (-x :: rest)).trail.length = s.begins[l] + 1 := by
    rw [lt, bt, List.length_append, List.length_take, List.length_singleton]
    omega
  have hmu : mu (V + (asm.length + V)) r.s.begins r.s.trail.length < mu (V + (asm.length + V)) (learnedS (backS s l) (-x :: rest)).begins (learnedS (backS s l) (-x :: rest)).trail.length := by
    rw [lb, bb, hlen, ← kp.beg]
    have hm := mu_mono (N := V + (asm.length + V)) (bs := s.begins) (show r.s.trail.length ≤ s.trail.length by rw [ht, List.length_append]; omega)
    have hbl2 : s.begins.length ≤ asm.length + V := by rw [kp.beg]; exact h.bl
    exact Nat.lt_of_le_of_lt hm (mu_learn hI.bs hl hbl2 htl hbt)
  have hnl : (learnedS (backS s l) (-x :: rest)).trail.length ≤ V := trail_len li.trng li.tdis
  have hlold : ∀ z ∈ r.s.trail, s.lev z.natAbs = r.s.lev z.natAbs := fun z hz => lev_same h.inv hI kp.beg ht hz
  have hlnew : ∀ z ∈ (backS s l).trail, (learnedS (backS s l) (-x :: rest)).lev z.natAbs = (backS s l).lev z.natAbs := fun z hz => lev_same bi li lb lt hz
  have hlow : ∀ z ∈ (backS s l).trail, z ∈ s.trail := fun z hz => by rw [bt] at hz; exact List.mem_of_mem_take hz
  have hlv1 : ∀ z ∈ (backS s l).trail, (backS s l).lev z.natAbs = s.lev z.natAbs := fun z hz => by
    refine (blo z (hlow z hz) ?_).2
    by_cases q : s.lev z.natAbs ≤ l
    · exact q
    · exact absurd rfl (bhi z (hlow z hz) (by omega) z hz)
  refine ⟨⟨li, ?_, fun i d e => ?_, fun hd => ?_, fun z hz hr hle => ?_, fun j y e hj => ?_, fun j b e => ?_, ?_, ?_⟩, ?_⟩
  · show SameC (cls ++ (r.learned ++ [o])) (learnedS (backS s l) (-x :: rest)).list
    rw [ll, bl, ← List.append_assoc]
    exact (h.list.trans kp.same).snoc ho.symm
  · rcases app_last e with ⟨q1, q2⟩ | ⟨rfl, rfl⟩
    · show Conf (cls ++ (r.learned ++ [o]).take i) _
      rw [List.take_append_of_le_length (by omega)]
      exact h.rup i d q2
    · show Conf (cls ++ (r.learned ++ [d]).take r.learned.length) _
      rw [List.take_append_of_le_length (Nat.le_refl _), List.take_length]
      refine (hL.conf.mono fun z => ?_).monoL (h.list.trans kp.same).symm.to
      rintro ⟨y, hy, rfl⟩
      exact ⟨y, ho.mem_iff.2 hy, rfl⟩
  · have hd' : r.s.dead = true := by rw [← kp.dead, ← bd, ← ld]; exact hd
    refine (h.dead hd').monoL fun d hdm => ?_
    obtain ⟨d', d1, d2⟩ := kp.same.to d hdm
    exact ⟨d', by show d' ∈ (learnedS (backS s l) (-x :: rest)).list; rw [ll, bl]; exact List.mem_append_left _ d1, d2⟩
  · have hz' : z ∈ (backS s l).trail ++ [-x] := by rw [← lt]; exact hz
    have hr' : up (backS s l).rea (-x).natAbs (some (backS s l).list.length) z.natAbs = none := by rw [← lr]; exact hr
    by_cases hzx : z.natAbs = (-x).natAbs
    · rw [hzx, up_eq] at hr'
      cases hr'
    · rcases List.mem_append.1 hz' with q | q
      · rw [up_ne hzx, brea z q] at hr'
        obtain ⟨g1, g2⟩ := kp.rea z (hlow z q) hr'
        refine h.dcs z g1 g2 ?_
        rw [← hlold z g1, ← hlv1 z q, ← hlnew z q]
        exact hle
      · rw [List.mem_singleton.1 q] at hzx
        exact absurd rfl hzx
  · have hj' : j < l := by
      have : j < (learnedS (backS s l) (-x :: rest)).begins.length := hj
      rw [lb, hbl] at this
      exact this
    obtain ⟨g1, g2⟩ := h.ast j y e (by rw [← kp.beg]; omega)
    have hys : y ∈ s.trail := by rw [ht]; exact List.mem_append_left _ g1
    have hyl : s.lev y.natAbs ≤ j + 1 := by rw [hlold y g1]; exact g2
    obtain ⟨q1, q2⟩ := blo y hys (by omega)
    refine ⟨by show y ∈ (learnedS (backS s l) (-x :: rest)).trail; rw [lt]; exact List.mem_append_left _ q1, ?_⟩
    show (learnedS (backS s l) (-x :: rest)).lev y.natAbs ≤ j + 1
    rw [hlnew y q1, q2]
    exact hyl
  · have e' : (s.begins.take l)[j]? = some b := by rw [← bb, ← lb]; exact e
    have hj := (List.getElem?_eq_some_iff.1 e').1
    rw [List.length_take] at hj
    rw [List.getElem?_take_of_lt (by omega), kp.beg] at e'
    exact h.b1 j b e'
  · show (learnedS (backS s l) (-x :: rest)).begins.length ≤ asm.length + (learnedS (backS s l) (-x :: rest)).trail.length
    rw [lb, hbl, hlen]
    have := h.b1 l s.begins[l] (by rw [← kp.beg]; exact List.getElem?_eq_getElem hl)
    omega
  · show (r.learned ++ [o]).length ≤ _
    have := h.cnt
    rw [List.length_append, List.length_singleton]
    exact Nat.lt_of_le_of_lt this hmu
  · refine meas_mu hmu ?_ hnl
    rw [lb, hbl]
    have : s.begins.length ≤ asm.length + V := by rw [kp.beg]; exact h.bl
    omega
theorem GInv.decide (h : GInv V asm cls r) (hh : r.s.head = r.s.trail.length) {l : Int} (hl : l ≠ 0 ∧ l.natAbs ≤ V) (hu : ∀ x ∈ r.s.trail, x.natAbs ≠ l.natAbs) (ha : ∀ x, asm[r.s.begins.length]? = some x → x = l) :
    GInv V asm cls ⟨decideS r.s l, r.learned⟩ ∧ meas V (asm.length + V) (decideS r.s l).begins (decideS r.s l).trail.length < meas V (asm.length + V) r.s.begins r.s.trail.length := by
  have hi := h.inv.decide hh hl hu
  have hlen : (decideS r.s l).trail.length = r.s.trail.length + 1 := by
    show (r.s.trail ++ [l]).length = _
    rw [List.length_append, List.length_singleton]
  have hbg : (decideS r.s l).begins = r.s.begins ++ [r.s.trail.length] := rfl
  have hbl : (decideS r.s l).begins.length = r.s.begins.length + 1 := by rw [hbg, List.length_append, List.length_singleton]
  have hlv : ∀ z ∈ r.s.trail, (decideS r.s l).lev z.natAbs = r.s.lev z.natAbs := fun z hz => up_ne (hu z hz)
  have hmu : mu (V + (asm.length + V)) r.s.begins r.s.trail.length < mu (V + (asm.length + V)) (decideS r.s l).begins (decideS r.s l).trail.length := by
    rw [hlen, hbg, mu_succ, mu_level (Nat.le_refl _)]
    have := Nat.two_pow_pos (V + (asm.length + V) - (r.s.trail.length + lvp (r.s.begins ++ [r.s.trail.length]) r.s.trail.length))
    omega
  have hnl : (decideS r.s l).trail.length ≤ V := trail_len hi.trng hi.tdis
  have hb2 : (decideS r.s l).begins.length ≤ asm.length + (decideS r.s l).trail.length := by
    rw [hbl, hlen]
    have := h.b2
    omega
  refine ⟨⟨hi, h.list, h.rup, h.dead, fun z hz hr hle => ?_, fun j y e hj => ?_, fun j b e => ?_, hb2, Nat.le_trans h.cnt (Nat.le_of_lt hmu)⟩, meas_mu hmu (by omega) hnl⟩
  · rcases List.mem_append.1 hz with q | q
    · exact h.dcs z q hr (by rw [← hlv z q]; exact hle)
    · rw [List.mem_singleton.1 q] at hle ⊢
      have e1 : (decideS r.s l).lev l.natAbs = (r.s.begins ++ [r.s.trail.length]).length := up_eq _ _ _
      have e2 : (decideS r.s l).lev l.natAbs ≤ asm.length := hle
      rw [e1, List.length_append, List.length_singleton] at e2
      have hlt : r.s.begins.length < asm.length := by omega
      have := ha _ (List.getElem?_eq_getElem hlt)
      rw [← this]
      exact List.getElem_mem hlt
  · by_cases hjb : j < r.s.begins.length
    · obtain ⟨g1, g2⟩ := h.ast j y e hjb
      exact ⟨List.mem_append_left _ g1, by show (decideS r.s l).lev y.natAbs ≤ j + 1; rw [hlv y g1]; exact g2⟩
    · have hj' : j < r.s.begins.length + 1 := by rw [← hbl]; exact hj
      have hje : j = r.s.begins.length := by omega
      subst hje
      have := ha y e
      subst this
      refine ⟨List.mem_append_right _ (List.mem_singleton.2 rfl), ?_⟩
      have e1 : (decideS r.s y).lev y.natAbs = (r.s.begins ++ [r.s.trail.length]).length := up_eq _ _ _
      show (decideS r.s y).lev y.natAbs ≤ _
      rw [e1, List.length_append, List.length_singleton]
      exact Nat.le_refl _
  · have e' : (r.s.begins ++ [r.s.trail.length])[j]? = some b := e
    by_cases hjb : j < r.s.begins.length
    · rw [List.getElem?_append_left hjb] at e'
      exact h.b1 j b e'
    · have hj1 := (List.getElem?_eq_some_iff.1 e').1
      rw [List.length_append, List.length_singleton] at hj1
      have hje : j = r.s.begins.length := by omega
      subst hje
      rw [List.getElem?_append_right (Nat.le_refl _), Nat.sub_self] at e'
      have : r.s.trail.length = b := by simpa using e'
      rw [← this]
      exact h.b2
theorem GInv.level (h : GInv V asm cls r) (hh : r.s.head = r.s.trail.length) {x : Int} (ha : asm[r.s.begins.length]? = some x) (hx : x ∈ r.s.trail) :
    GInv V asm cls ⟨levelS r.s, r.learned⟩ ∧ meas V (asm.length + V) (levelS r.s).begins (levelS r.s).trail.length < meas V (asm.length + V) r.s.begins r.s.trail.length := by
  have hi := h.inv.level hh
  have hbg : (levelS r.s).begins = r.s.begins ++ [r.s.trail.length] := rfl
  have hbl : (levelS r.s).begins.length = r.s.begins.length + 1 := by rw [hbg, List.length_append, List.length_singleton]
  have hlt := (List.getElem?_eq_some_iff.1 ha).1
  refine ⟨⟨hi, h.list, h.rup, h.dead, h.dcs, fun j y e hj => ?_, fun j b e => ?_, ?_, ?_⟩, ?_⟩
  · by_cases hjb : j < r.s.begins.length
    · exact h.ast j y e hjb
    · have hj' : j < r.s.begins.length + 1 := by rw [← hbl]; exact hj
      have hje : j = r.s.begins.length := by omega
      subst hje
      rw [ha] at e
      cases e
      exact ⟨hx, Nat.le_succ_of_le (h.inv.lev_le hx)⟩
  · have e' : (r.s.begins ++ [r.s.trail.length])[j]? = some b := e
    by_cases hjb : j < r.s.begins.length
    · rw [List.getElem?_append_left hjb] at e'
      exact h.b1 j b e'
    · have hj1 := (List.getElem?_eq_some_iff.1 e').1
      rw [List.length_append, List.length_singleton] at hj1
      have hje : j = r.s.begins.length := by omega
      subst hje
      rw [List.getElem?_append_right (Nat.le_refl _), Nat.sub_self] at e'
      have : r.s.trail.length = b := by simpa using e'
      rw [← this]
      exact h.b2
  · show (levelS r.s).begins.length ≤ asm.length + r.s.trail.length
    omega
  · show r.learned.length ≤ mu _ (r.s.begins ++ [r.s.trail.length]) r.s.trail.length
    rw [mu_level (Nat.le_refl _)]
    exact h.cnt
  · show meas V (asm.length + V) (r.s.begins ++ [r.s.trail.length]) r.s.trail.length < _
    exact meas_level (Nat.le_refl _) (by omega)
theorem add_dead {s : SS} (h : Inv V s s.watch fun _ => False) (hb : s.begins = []) (hd : s.dead = true → Conf s.list fun _ => False) (c : Cl) : (addS s c).dead = true → Conf (s.list ++ [c]) fun _ => False := fun q => by
  have hgrow : s.dead = true → Conf (s.list ++ [c]) fun _ => False := fun q => (hd q).monoL fun d hdm => ⟨d, List.mem_append_left _ hdm, List.Perm.refl _⟩
  match c, q, hgrow with
  | [], _, _ => exact ⟨[], List.mem_append_right _ (by simp), fun y hy => by cases hy⟩
  | [a], q, hgrow =>
    by_cases h1 : s.val (-a) = true
    · have ham := (h.val _).1 h1
      refine ⟨[a], List.mem_append_right _ (by simp), fun y hy => ?_⟩
      rw [List.mem_singleton.1 hy]
      have hl := h.lev_le ham
      rw [hb] at hl
      have hD := der_zero' h (fun _ => False) ham (Nat.le_zero.1 hl)
      have go : ∀ x, Der s.list (fun _ => False) x → Der (s.list ++ [[a]]) (fun _ => False) x := fun x hx => by
        induction hx with
        | base q => exact .base q
        | step h1 h2 _ ih => exact .step (List.mem_append_left _ h1) h2 ih
      exact go _ hD
    · refine hgrow ?_
      have e : (addS s [a]).dead = s.dead := by
        unfold addS
        simp only
        rw [if_neg h1]
        split <;> rfl
      rw [← e]; exact q
  | a :: b :: r, q, hgrow => exact hgrow q
theorem GInv.init {asm : List Int} {cls : List Cl} (hr : ∀ c ∈ cls, (∀ x ∈ c, x ≠ 0 ∧ x.natAbs ≤ V) ∧ c.Pairwise fun x y => x.natAbs ≠ y.natAbs) : GInv V asm cls ⟨beginS cls, []⟩ := by
  have go : ∀ (l : List Cl) (s : SS), (∀ c ∈ l, (∀ x ∈ c, x ≠ 0 ∧ x.natAbs ≤ V) ∧ c.Pairwise fun x y => x.natAbs ≠ y.natAbs) → (Inv V s s.watch fun _ => False) → s.begins = [] → s.head = 0 → (s.dead = true → Conf s.list fun _ => False) → (∀ x ∈ s.trail, s.rea x.natAbs ≠ none) →
      ((l.foldl addS s).dead = true → Conf (l.foldl addS s).list fun _ => False) := by
    intro l
    induction l with
    | nil => intro s _ _ _ _ hd _; exact hd
    | cons c l ih =>
      intro s hr h hb hh hd hn
      obtain ⟨a1, a2, a3, a4, _⟩ := h.add hb (hr c (by simp)).1 (hr c (by simp)).2 fun _ => hh
      rw [List.foldl_cons]
      have hn' : ∀ x ∈ (addS s c).trail, (addS s c).rea x.natAbs ≠ none := fun x hx q => by
        obtain ⟨p, hp⟩ := mem_at.1 hx
        have := a1.dec p x hp q
        rw [a2] at this
        cases this
      exact ih (addS s c) (fun d hd => hr d (by simp [hd])) a1 a2 (a3.trans hh) (by rw [a4]; exact add_dead h hb hd c) hn'
  obtain ⟨a1, a2, a3, a4⟩ := begin_ok hr
  have a5 := go cls startS hr (Inv.init V) rfl rfl (fun q => by cases q) (fun x hx => by cases hx)
  refine ⟨a1, ?_, fun i c e => by simp at e, a5, fun x hx hrx _ => ?_, fun j x e hj => ?_, fun j b e => ?_, ?_, Nat.zero_le _⟩
  · show SameC (cls ++ []) (beginS cls).list
    rw [List.append_nil, a4]
    exact SameC.refl _
  · obtain ⟨p, hp⟩ := mem_at.1 hx
    have hm : p ∈ (beginS cls).begins := a1.dec p x hp hrx
    rw [a2] at hm
    cases hm
  · have hj' : j < (beginS cls).begins.length := hj
    rw [a2] at hj'
    exact absurd hj' (Nat.not_lt_zero _)
  · have e' : (beginS cls).begins[j]? = some b := e
    rw [a2] at e'
    simp at e'
  · show (beginS cls).begins.length ≤ _
    rw [a2]
    exact Nat.zero_le _
end
end Go.Proofs.Ytpiidgcljlalmaa.S43
namespace Go.Proofs.Ytpiidgcljlalmaa.S43
def SatL (T : Int → Prop) (l : List Cl) : Prop := ∀ c ∈ l, ∃ x ∈ c, T x
theorem der_sat {T : Int → Prop} {l : List Cl} {a : Int → Prop} (h1 : ∀ x, T x → ¬ T (-x)) (h2 : SatL T l) (h3 : ∀ x, a x → T x) : ∀ x, Der l a x → T x := fun x h => by
  induction h with
  | base q => exact h3 _ q
  | @step c x hc hx _ ih =>
    obtain ⟨y, y1, y2⟩ := h2 c hc
    by_cases e : y = x
    · rw [← e]; exact y2
    · exact absurd (ih y y1 e) (h1 y y2)
theorem conf_unsat {T : Int → Prop} {l : List Cl} {a : Int → Prop} (h1 : ∀ x, T x → ¬ T (-x)) (h2 : SatL T l) (h3 : ∀ x, a x → T x) : ¬ Conf l a := fun ⟨c, hc, h⟩ => by
  obtain ⟨y, y1, y2⟩ := h2 c hc
  exact h1 y y2 (der_sat h1 h2 h3 _ (h y y1))
section
variable {V : Nat} {asm : List Int} {cls : List Cl} {r : RS}
theorem GInv.learned_sat (h : GInv V asm cls r) {T : Int → Prop} (h1 : ∀ x, T x → ¬ T (-x)) (ht : ∀ x : Int, x ≠ 0 → x.natAbs ≤ V → T x ∨ T (-x)) (h2 : SatL T cls) : SatL T (cls ++ r.learned) := by
  have hr : ∀ c ∈ r.learned, ∀ y ∈ c, y ≠ 0 ∧ y.natAbs ≤ V := fun c hc y hy => by
    obtain ⟨c', c1, c2⟩ := h.list.to c (List.mem_append_right _ hc)
    exact h.inv.rng c' c1 y (c2.mem_iff.2 hy)
  have go : ∀ n, n ≤ r.learned.length → SatL T (cls ++ r.learned.take n) := by
    intro n
    induction n with
    | zero => intro _; rw [List.take_zero, List.append_nil]; exact h2
    | succ n ih =>
      intro hn c hc
      have ihn := ih (by omega)
      rw [List.take_succ_eq_append_getElem (by omega), ← List.append_assoc] at hc
      rcases List.mem_append.1 hc with hc | hc
      · exact ihn c hc
      · rw [List.mem_singleton.1 hc]
        refine Classical.byContradiction fun q => ?_
        refine conf_unsat h1 ihn (fun z => ?_) (h.rup n _ (List.getElem?_eq_getElem (by omega)))
        rintro ⟨y, hy, rfl⟩
        obtain ⟨q1, q2⟩ := hr _ (List.getElem_mem (by omega)) y hy
        rcases ht y q1 q2 with q3 | q3
        · exact absurd ⟨y, hy, q3⟩ q
        · exact q3
  have := go r.learned.length (Nat.le_refl _)
  rwa [List.take_length] at this
theorem GInv.no (h : GInv V asm cls r) (hc : Conf (cls ++ r.learned) fun _ => False) {T : Int → Prop} (h1 : ∀ x, T x → ¬ T (-x)) (ht : ∀ x : Int, x ≠ 0 → x.natAbs ≤ V → T x ∨ T (-x)) : ¬ SatL T cls := fun h2 =>
  conf_unsat h1 (h.learned_sat h1 ht h2) (fun _ q => q.elim) hc
theorem GInv.no_dead (h : GInv V asm cls r) (hd : r.s.dead = true) : Conf (cls ++ r.learned) fun _ => False := (h.dead hd).monoL h.list.symm.to
theorem GInv.no_zero (h : GInv V asm cls r) {k : Nat} (hk : (propS (V + 1) r.s).2 = some k) (hb : (propS (V + 1) r.s).1.begins = []) : Conf (cls ++ r.learned) fun _ => False := by
  obtain ⟨kp, _, k3⟩ := prop_ok (V + 1) r.s h.inv (by omega)
  exact (confl_zero (k3 k hk) hb).monoL (h.list.trans kp.same).symm.to
theorem GInv.yes (h : GInv V asm cls r) (hh : r.s.head = r.s.trail.length) (hd : r.s.dead = false) (hall : ∀ x : Int, x ≠ 0 → x.natAbs ≤ V → x ∈ r.s.trail ∨ -x ∈ r.s.trail) (hb : asm.length ≤ r.s.begins.length) : SatL (· ∈ r.s.trail) cls ∧ ∀ x ∈ asm, x ∈ r.s.trail := by
  refine ⟨fun c hc => ?_, fun x hx => ?_⟩
  · obtain ⟨c', c1, c2⟩ := h.list.to c (List.mem_append_left _ hc)
    have key : ∃ x ∈ c', x ∈ r.s.trail := by
      match c', c1 with
      | [], c1 => rw [h.inv.emp c1] at hd; cases hd
      | [a], c1 => exact ⟨a, by simp, (h.inv.unit hd a c1).1⟩
      | a :: b :: rr, c1 =>
        obtain ⟨k, hk⟩ := mem_at.1 c1
        have ha := h.inv.rng _ c1 a (by simp)
        rcases hall a ha.1 ha.2 with q | q
        · exact ⟨a, by simp, q⟩
        · have := (h.inv.two k a b rr hk r.s.head (Nat.le_refl _) fun q => q.elim).1 (by rw [hh, List.take_length]; exact q)
          exact ⟨b, by simp, this.1⟩
    obtain ⟨x, x1, x2⟩ := key
    exact ⟨x, c2.mem_iff.1 x1, x2⟩
  · obtain ⟨j, hj⟩ := mem_at.1 hx
    exact (h.ast j x hj (Nat.lt_of_lt_of_le (List.getElem?_eq_some_iff.1 hj).1 hb)).1
def blameStep (s : SS) (st : (Nat → Bool) × (Int → Bool)) (y : Int) : (Nat → Bool) × (Int → Bool) :=
  if st.1 y.natAbs = false ∨ s.lev y.natAbs = 0 then st
  else match s.rea y.natAbs with
    | some q => ((s.list.getD q []).foldl (fun f z => up f z.natAbs true) st.1, st.2)
    | none => (st.1, up st.2 y true)
def blameS (s : SS) (asm : List Int) (x : Int) : List Int := asm.filter (s.trail.reverse.foldl (blameStep s) (up (fun _ => false) x.natAbs true, up (fun _ => false) x true)).2
theorem marks_mono : ∀ (c : Cl) (f : Nat → Bool) (v : Nat), f v = true → (c.foldl (fun f z => up f z.natAbs true) f) v = true
  | [], _, _, h => h
  | z :: c, f, v, h => marks_mono c _ v (by
    show up f z.natAbs true v = true
    by_cases e : v = z.natAbs
    · rw [e, up_eq]
    · rw [up_ne e]; exact h)
theorem marks_all : ∀ (c : Cl) (f : Nat → Bool), ∀ z ∈ c, (c.foldl (fun f z => up f z.natAbs true) f) z.natAbs = true
  | y :: c, f, z, hz => by
    rcases List.mem_cons.1 hz with rfl | hz
    · exact marks_mono c _ _ (up_eq _ _ _)
    · exact marks_all c _ z hz
theorem blame_mono (s : SS) : ∀ (t : List Int) (st : (Nat → Bool) × (Int → Bool)) (z : Int), st.2 z = true → (t.foldl (blameStep s) st).2 z = true
  | [], _, _, h => h
  | y :: t, st, z, h => blame_mono s t _ z (by
    unfold blameStep
    split
    · exact h
    · split
      · exact h
      · show up st.2 y true z = true
        by_cases e : z = y
        · rw [e, up_eq]
        · rw [up_ne e]; exact h)
theorem blame_dec (s : SS) : ∀ (t : List Int) (st : (Nat → Bool) × (Int → Bool)) (z : Int), (t.foldl (blameStep s) st).2 z = true → st.2 z = true ∨ (z ∈ t ∧ s.rea z.natAbs = none)
  | [], _, _, h => .inl h
  | y :: t, st, z, h => by
    rcases blame_dec s t _ z h with q | ⟨q1, q2⟩
    · unfold blameStep at q
      split at q
      · exact .inl q
      · split at q
        · exact .inl q
        · rename_i hr
          have q : up st.2 y true z = true := q
          by_cases e : z = y
          · subst e; exact .inr ⟨by simp, hr⟩
          · rw [up_ne e] at q; exact .inl q
    · exact .inr ⟨by simp [q1], q2⟩
theorem blame_der {s : SS} {W : Int → List Nat} {E : Nat → Prop} (h : Inv V s W E) {a : Int → Prop} : ∀ (p : Nat), p ≤ s.trail.length → ∀ (st : (Nat → Bool) × (Int → Bool)), (∀ z, ((s.trail.take p).reverse.foldl (blameStep s) st).2 z = true → a z) →
    ∀ (q : Nat) (y : Int), q < p → s.trail[q]? = some y → st.1 y.natAbs = true → Der s.list a y
  | 0, _, _, _, q, _, hq, _, _ => absurd hq (Nat.not_lt_zero q)
  | p + 1, hp, st, ha, q, y, hq, hy, hs => by
    have hx : s.trail[p]? = some (s.trail[p]'(by omega)) := List.getElem?_eq_getElem (by omega)
    have htk : (s.trail.take (p + 1)).reverse = s.trail[p]'(by omega) :: (s.trail.take p).reverse := by
      rw [List.take_succ_eq_append_getElem (by omega), List.reverse_append]; rfl
    generalize s.trail[p]'(by omega) = x at hx htk
    rw [htk, List.foldl_cons] at ha
    have ih := blame_der h p (by omega) (blameStep s st x) ha
    have hmono : ∀ v, st.1 v = true → (blameStep s st x).1 v = true := fun v hv => by
      unfold blameStep
      split
      · exact hv
      · split
        · exact marks_mono _ _ v hv
        · exact hv
    by_cases hqp : q = p
    · subst hqp
      have hxy : x = y := Option.some.inj (hx.symm.trans hy)
      subst hxy
      by_cases h0 : s.lev x.natAbs = 0
      · exact der_zero' h a (List.mem_of_getElem? hx) h0
      · cases hr : s.rea x.natAbs with
        | none =>
          refine Der.base (ha x (blame_mono s _ _ x ?_))
          unfold blameStep
          rw [if_neg (by rintro (q | q); · rw [hs] at q; cases q
                         · exact h0 q), hr]
          exact up_eq _ _ _
        | some k =>
          obtain ⟨c, c1, c2, c3⟩ := h.rea q x hx k hr
          refine Der.step (List.mem_of_getElem? c1) c2 fun z hz hne => ?_
          obtain ⟨i, i1, i2⟩ := mem_take_iff.1 (c3 z hz hne)
          refine ih i (-z) i1 i2 ?_
          rw [Int.natAbs_neg]
          unfold blameStep
          rw [if_neg (by rintro (q | q); · rw [hs] at q; cases q
                         · exact h0 q), hr]
          have hg : s.list.getD k [] = c := by rw [List.getD_eq_getElem?_getD, c1, Option.getD_some]
          show ((s.list.getD k []).foldl (fun f z => up f z.natAbs true) st.1) z.natAbs = true
          rw [hg]
          exact marks_all c _ z hz
    · exact ih q y (by omega) hy (hmono _ hs)
theorem GInv.blame (h : GInv V asm cls r) {x : Int} (ha : asm[r.s.begins.length]? = some x) (hx : -x ∈ r.s.trail) : x ∈ blameS r.s asm x ∧ Der r.s.list (· ∈ blameS r.s asm x) (-x) := by
  have hxm := List.mem_of_getElem? ha
  have hlt := (List.getElem?_eq_some_iff.1 ha).1
  have hin : x ∈ blameS r.s asm x := List.mem_filter.2 ⟨hxm, blame_mono _ _ _ _ (show up (fun _ => false) x true x = true from up_eq _ _ _)⟩
  refine ⟨hin, ?_⟩
  obtain ⟨p, hp⟩ := mem_at.1 hx
  refine blame_der h.inv r.s.trail.length (Nat.le_refl _) (up (fun _ => false) x.natAbs true, up (fun _ => false) x true) (fun z hz => ?_) p (-x) (List.getElem?_eq_some_iff.1 hp).1 hp (by rw [Int.natAbs_neg]; exact (show up (fun _ => false) x.natAbs true x.natAbs = true from up_eq _ _ _))
  rw [List.take_length] at hz
  refine List.mem_filter.2 ⟨?_, hz⟩
  rcases blame_dec _ _ _ _ hz with q | ⟨q1, q2⟩
  · by_cases e : z = x
    · rw [e]; exact hxm
    · have q' : up (fun _ => false) x true z = true := q
      rw [up_ne e] at q'
      cases q'
  · have hzt := List.mem_reverse.1 q1
    refine h.dcs z hzt q2 ?_
    have := h.inv.lev_le hzt
    omega
theorem GInv.core (h : GInv V asm cls r) {x : Int} (ha : asm[r.s.begins.length]? = some x) (hx : -x ∈ r.s.trail) {T : Int → Prop} (h1 : ∀ x, T x → ¬ T (-x)) (ht : ∀ x : Int, x ≠ 0 → x.natAbs ≤ V → T x ∨ T (-x)) (hT : ∀ y ∈ blameS r.s asm x, T y) : ¬ SatL T cls := fun h2 => by
  obtain ⟨b1, b2⟩ := h.blame ha hx
  have h3 : SatL T r.s.list := fun c hc => by
    obtain ⟨c', c1, c2⟩ := h.list.symm.to c hc
    obtain ⟨y, y1, y2⟩ := h.learned_sat h1 ht h2 c' c1
    exact ⟨y, c2.mem_iff.1 y1, y2⟩
  exact h1 x (hT x b1) (der_sat h1 h3 hT _ b2)
end
end Go.Proofs.Ytpiidgcljlalmaa.S43
namespace Go.Proofs.Ytpiidgcljlalmaa.S43
section
variable {V : Nat} {s : SS} {W : Int → List Nat} {E : Nat → Prop} {w x : Int} {r : Cl} {k : Nat} {kept rest : List Nat}
theorem nodup_len : ∀ {n : Nat} {l : List Nat}, l.Nodup → (∀ k ∈ l, k < n) → l.length ≤ n := fun {n l} hn h => by
  have h1 : l.length ≤ (List.range n).length := List.Nodup.length_le_of_subset hn fun k hk => List.mem_range.2 (h k hk)
  simpa using h1
theorem Inv0.wlen (h : Inv0 V s W) (l : Int) : (W l).length ≤ s.list.length :=
  nodup_len (h.wnd l) fun k hk => by
    obtain ⟨a, b, r, e, _⟩ := h.wmem l k hk
    exact (List.getElem?_eq_some_iff.1 e).1
theorem Inv0.tlen (h : Inv0 V s W) : s.trail.length ≤ V := trail_len h.trng h.tdis
theorem LInv.lens (h : LInv V s w kept rest) : s.trail.length ≤ V ∧ kept.length + rest.length ≤ s.list.length ∧ ∀ l, l ≠ w → (s.watch l).length ≤ s.list.length := by
  refine ⟨h.inv.toInv0.tlen, ?_, fun l hl => ?_⟩
  · have := h.inv.toInv0.wlen w
    rw [up_eq, List.length_append] at this
    exact this
  · have := h.inv.toInv0.wlen l
    rwa [up_ne hl] at this
theorem visit_true (hn : norm w (s.list.getD k []) = x :: w :: r) (h : s.val x = true) : visit s w k kept = (({ s with list := s.list.set k (x :: w :: r) }, kept ++ [k]), false) := by
  unfold visit
  rw [hn]
  simp only [h, if_true]
theorem visit_some {n : Nat} (hn : norm w (s.list.getD k []) = x :: w :: r) (h : s.val x = false) (hf : r.findIdx? (fun y => !s.val (-y)) = some n) : visit s w k kept = (({ s with list := s.list.set k (x :: r.getD n 0 :: r.set n w), watch := up s.watch (r.getD n 0) (s.watch (r.getD n 0) ++ [k]) }, kept), false) := by
  unfold visit
  rw [hn]
  simp only [h, hf, Bool.false_eq_true, if_false]
theorem visit_bad (hn : norm w (s.list.getD k []) = x :: w :: r) (h : s.val x = false) (hf : r.findIdx? (fun y => !s.val (-y)) = none) (h2 : s.val (-x) = true) : visit s w k kept = (({ s with list := s.list.set k (x :: w :: r) }, kept ++ [k]), true) := by
  unfold visit
  rw [hn]
  simp only [h, hf, h2, Bool.false_eq_true, if_false, if_true]
theorem visit_unit (hn : norm w (s.list.getD k []) = x :: w :: r) (h : s.val x = false) (hf : r.findIdx? (fun y => !s.val (-y)) = none) (h2 : s.val (-x) = false) : visit s w k kept = ((assignS { s with list := s.list.set k (x :: w :: r) } x (some k), kept ++ [k]), false) := by
  unfold visit
  rw [hn]
  simp only [h, hf, h2, Bool.false_eq_true, if_false]
theorem visits_go (h : (visit s w k kept).2 = false) : visits w (k :: rest) kept s = visits w rest (visit s w k kept).1.2 (visit s w k kept).1.1 := by
  show (if (visit s w k kept).2 then _ else _) = _
  rw [h]; rfl
theorem visits_stop (h : (visit s w k kept).2 = true) : visits w (k :: rest) kept s = ({ (visit s w k kept).1.1 with watch := up (visit s w k kept).1.1.watch w ((visit s w k kept).1.2 ++ rest) }, some k) := by
  show (if (visit s w k kept).2 then _ else _) = _
  rw [h]; rfl
theorem propS_end {f : Nat} (h : ¬ s.head < s.trail.length) : propS f s = (s, none) := by
  cases f with
  | zero => rfl
  | succ f => unfold propS; rw [if_neg h]
theorem propS_go {f : Nat} {t : Int} (h : s.head < s.trail.length) (ht : s.trail.getD s.head 0 = t) : propS (f + 1) s = if (visits (-t) (s.watch (-t)) [] { s with head := s.head + 1 }).2.isSome then visits (-t) (s.watch (-t)) [] { s with head := s.head + 1 } else propS f (visits (-t) (s.watch (-t)) [] { s with head := s.head + 1 }).1 := by
  subst ht
  rw [propS]
  rw [if_pos h]
theorem norm_cases {a b : Int} (hn : norm w (a :: b :: r) = x :: w :: r) (hab : a ≠ b) : (a = w ∧ b = x) ∨ (a ≠ w ∧ a = x ∧ b = w) := by
  have hn : (if a = w then b :: a :: r else a :: b :: r) = x :: w :: r := hn
  by_cases h : a = w
  · rw [if_pos h] at hn
    injection hn with h1 h2
    exact .inl ⟨h, h1⟩
  · rw [if_neg h] at hn
    injection hn with h1 h2
    injection h2 with h2 _
    exact .inr ⟨h, h1, h2⟩
theorem getD_set_ne {l : List Cl} {k j : Nat} {c : Cl} (h : j ≠ k) : (l.set k c).getD j [] = l.getD j [] := by
  rw [List.getD_eq_getElem?_getD, List.getD_eq_getElem?_getD, List.getElem?_set_ne (Ne.symm h)]
theorem getD_set_eq {l : List Cl} {k : Nat} {c : Cl} (h : k < l.length) : (l.set k c).getD k [] = c := by
  rw [List.getD_eq_getElem?_getD, List.getElem?_set]; simp [h]
end
end Go.Proofs.Ytpiidgcljlalmaa.S43
