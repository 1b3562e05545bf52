/- Part 24: walks by contracts, and plain laws. -/
import Derived.Test.YtgppfikidagfpaaGreatDoorVf23
set_option linter.unusedVariables false
set_option linter.unusedSimpArgs false
set_option linter.unusedSectionVars false
namespace Go.Proofs.YtgppfikidagfpaaGreatDoor
theorem chkO_asc : ∀ (l : Cx) (p : Option (List Vx)), chkO p l = 0 → AscL l ∧ (∀ u, p = some u → ∀ s ∈ l, cmpL u s < 0) ∧ ∀ s ∈ l, chkV s = 0
  | [], p, _ => ⟨by simp [AscL], by simp, by simp⟩
  | s :: l, p, h => by
    unfold chkO at h
    by_cases h1 : chkV s ≠ 0
    · rw [if_pos h1] at h; exact absurd h h1
    rw [if_neg h1] at h
    have key : chkO (some s) l = 0 ∧ ∀ u, p = some u → cmpL u s < 0 := by
      cases p with
      | none => exact ⟨by simpa using h, fun u hu => by cases hu⟩
      | some u =>
        by_cases h2 : 0 ≤ cmpL u s
        · simp only [h2, decide_true, if_true] at h
          exact absurd h (by decide)
        · simp only [h2, decide_false, Bool.false_eq_true, if_false] at h
          exact ⟨h, fun u' hu => by cases hu; omega⟩
    obtain ⟨h3, h4, h5⟩ := chkO_asc l (some s) key.1
    have h6 := h4 s rfl
    refine ⟨List.pairwise_cons.2 ⟨h6, h3⟩, fun u hu x hx => ?_, fun x hx => ?_⟩
    · have h7 := key.2 u hu
      rcases List.mem_cons.1 hx with rfl | hx
      · exact h7
      · exact cmpL_lt_trans h7 (h6 x hx)
    · rcases List.mem_cons.1 hx with rfl | hx
      · omega
      · exact h5 x hx
theorem chkO_of : ∀ (l : Cx) (p : Option (List Vx)), AscL l → (∀ u, p = some u → ∀ s ∈ l, cmpL u s < 0) → (∀ s ∈ l, chkV s = 0) → chkO p l = 0
  | [], p, _, _, _ => rfl
  | s :: l, p, ha, hp, hc => by
    unfold chkO
    rw [if_neg (by have := hc s (by simp); omega), if_neg ?_]
    · unfold AscL at ha
      rw [List.pairwise_cons] at ha
      exact chkO_of l (some s) ha.2 (fun u hu x hx => by cases hu; exact ha.1 x hx) fun x hx => hc x (by simp [hx])
    · cases p with
      | none => simp
      | some u =>
        have := hp u rfl s (by simp)
        simp only [decide_eq_true_eq]; omega
theorem inside_lt {a b : List Vx} (ha : Asc a) (hb : Asc b) (h : insideV a b = true) (hne : a ≠ b) : a.length < b.length := by
  have hsub : ∀ x ∈ a, x ∈ b := fun x hx => by
    have := List.all_eq_true.1 h x hx
    simpa using this
  have e : sharedV b a true = a := asc_ext (asc_shared hb) ha fun x => by
    rw [mem_shared]
    constructor
    · intro ⟨_, h⟩; simpa using h
    · intro hx; exact ⟨hsub x hx, by simpa using hx⟩
  have hs : a.Sublist b := by rw [← e]; exact shared_sub
  rcases Nat.lt_or_ge a.length b.length with h1 | h1
  · exact h1
  · exact absurd (hs.eq_of_length_le h1) hne
theorem twice_any {l : Cx} (ha : AscL l) (hc : ∀ s ∈ l, chkV s = 0) : twiceC l = l.any fun s => coveredC l s := by
  have asc : ∀ s ∈ l, Asc s := fun s hs => (chkV_zero.1 (hc s hs)).2.2.2
  rw [Bool.eq_iff_iff]
  unfold twiceC
  simp only [List.any_eq_true, List.mem_range, Bool.and_eq_true, decide_eq_true_eq, coveredC_iff]
  constructor
  · rintro ⟨i, hi, k, hk, hne, h⟩
    rw [getD_at hi, getD_at hk] at h
    have hmi := List.getElem_mem hi
    have hmk := List.getElem_mem hk
    refine ⟨l[i], hmi, l[k], hmk, inside_lt (asc _ hmi) (asc _ hmk) h fun e => ?_, h⟩
    have hp := List.pairwise_iff_getElem.1 ha.nodup
    rcases Nat.lt_or_gt_of_ne hne with h1 | h1
    · exact hp i k hi hk h1 e
    · exact hp k i hk hi h1 e.symm
  · rintro ⟨s, hs, x, hx, hlt, h⟩
    obtain ⟨i, hi, rfl⟩ := List.getElem_of_mem hs
    obtain ⟨k, hk, rfl⟩ := List.getElem_of_mem hx
    exact ⟨i, hi, k, hk, fun e => by subst e; omega, by rw [getD_at hi, getD_at hk]; exact h⟩
def GoodX (l : Cx) : Prop := l.length ≤ 4096 ∧ AscL l ∧ (∀ s ∈ l, chkV s = 0) ∧ ∀ s ∈ l, coveredC l s = false
theorem goodX_iff {l : Cx} : chkC l = 0 ↔ GoodX l := by
  unfold GoodX
  constructor
  · intro h
    obtain ⟨h1, h2, h3, h4⟩ := chkC_good h
    obtain ⟨h5, _, h6⟩ := chkO_asc l none h2
    rw [twice_any h5 h6, List.any_eq_false] at h3
    exact ⟨h1, h5, h6, fun s hs => by simpa using h3 s hs⟩
  · rintro ⟨h1, h2, h3, h4⟩
    unfold chkC
    have h5 : chkO none l = 0 := chkO_of l none h2 (fun u hu => by cases hu) h3
    have h6 : twiceC l = false := by
      rw [twice_any h2 h3, List.any_eq_false]
      exact fun s hs => by simp [h4 s hs]
    rw [if_neg (by omega), if_neg (by omega), if_neg (by simp [h6])]
theorem good_max {l : Cx} (hc : ∀ s ∈ l, s.length ≠ 0 → chkV s = 0) (hl : (maxC l).length ≤ 4096) : GoodX (maxC l) := by
  refine ⟨hl, maxC_asc l, fun s hs => ?_, fun s hs => ?_⟩
  · obtain ⟨h1, h2⟩ := maxC_mem.1 hs
    unfold topC at h2
    simp only [Bool.and_eq_true, decide_eq_true_eq] at h2
    exact hc s h1 (by omega)
  · obtain ⟨h1, h2⟩ := maxC_mem.1 hs
    unfold topC at h2
    simp only [Bool.and_eq_true, decide_eq_true_eq, Bool.not_eq_true'] at h2
    rw [Bool.eq_false_iff]
    intro hcv
    obtain ⟨x, hx, hr⟩ := coveredC_iff.1 hcv
    have := coveredC_iff.2 ⟨x, (maxC_mem.1 hx).1, hr⟩
    rw [h2.2] at this
    cases this
theorem allC_mem : ∀ {l : Cx} {k : Nat} {x : List Vx}, x ∈ allC l k ↔ ∃ f ∈ l, x ∈ subsV k f := by
  have go : ∀ (l out : Cx) (k : Nat) (x : List Vx), x ∈ l.foldl (fun out f => if f.length < k then out else (subsV k f).foldl putC out) out ↔ x ∈ out ∨ ∃ f ∈ l, x ∈ subsV k f := by
    intro l
    induction l with
    | nil => intro out k x; simp
    | cons f l ih =>
      intro out k x
      rw [List.foldl_cons, ih]
      have e : x ∈ (if f.length < k then out else (subsV k f).foldl putC out) ↔ x ∈ out ∨ x ∈ subsV k f := by
        split
        · rename_i h; rw [subsV_short k f h]; simp
        · rw [foldPut_mem]; exact or_comm
      rw [e]
      constructor
      · rintro ((h | h) | ⟨g, hg, h⟩)
        · exact .inl h
        · exact .inr ⟨f, by simp, h⟩
        · exact .inr ⟨g, by simp [hg], h⟩
      · rintro (h | ⟨g, hg, h⟩)
        · exact .inl (.inl h)
        · rcases List.mem_cons.1 hg with rfl | hg
          · exact .inl (.inr h)
          · exact .inr ⟨g, hg, h⟩
  intro l k x
  unfold allC
  rw [go]; simp
theorem allC_asc (l : Cx) (k : Nat) : AscL (allC l k) := by
  have go : ∀ (l out : Cx), AscL out → AscL (l.foldl (fun out f => if f.length < k then out else (subsV k f).foldl putC out) out) := by
    intro l
    induction l with
    | nil => intro out h; exact h
    | cons f l ih =>
      intro out h
      rw [List.foldl_cons]
      refine ih _ ?_
      split
      · exact h
      · exact foldPut_asc h
  exact go l [] (by simp [AscL])
end Go.Proofs.YtgppfikidagfpaaGreatDoor
namespace Go.Proofs.YtgppfikidagfpaaGreatDoor
open Go.RowKit
set_option linter.unusedSimpArgs false

set_option maxHeartbeats 2000000
set_option maxRecDepth 100000
section
variable {P : Program} {ops : Array Oper} {hp : List HObj} {fr : List Dat} {dst : Option Tmp} {ty : TypeId} {ps : String} {af : Array Edge} {g : Option (Nat × Bool)}
theorem SY.minI {x y : Operand} {m n : Int} {ats : Array TypeId} (hx : OpD fr x (dI m)) (hy : OpD fr y (dI n)) : SY P ops hp { dst := dst, op := .call { callee := .builtin .min, args := #[x, y], argTypes := ats }, type := ty, pos := ps, after := af, guard := g } fr (dI (if n < m then n else m)) :=
  SY.val fun {I w a} ho => ⟨.int .i64 (if n < m then n else m), by
    have h1 : a.eval x = .int .i64 m := hx.get (by simp [Op.operands, Call.operands]) ho
    have h2 : a.eval y = .int .i64 n := hy.get (by simp [Op.operands, Call.operands]) ho
    unfold execOp
    simp [resolve, invoke, builtin, h1, h2, Builtin.min_, Builtin.min2], rfl⟩
end
end Go.Proofs.YtgppfikidagfpaaGreatDoor
namespace Go.Proofs.YtgppfikidagfpaaGreatDoor
theorem GoodX.asc {l : Cx} (h : GoodX l) : ∀ s ∈ l, Asc s := fun s hs => (chkV_zero.1 (h.2.2.1 s hs)).2.2.2
end Go.Proofs.YtgppfikidagfpaaGreatDoor
namespace Go.Proofs.YtgppfikidagfpaaGreatDoor
abbrev CntM := List (List Vx × Int)
def fcsC (l : Cx) (d : Nat) : Cx := (l.map (subsV d)).flatten
theorem fcsC_mem {l : Cx} {d : Nat} {f : List Vx} : f ∈ fcsC l d ↔ f ∈ allC l d := by
  unfold fcsC
  rw [List.mem_flatten, allC_mem]
  constructor
  · rintro ⟨x, hx, hf⟩
    obtain ⟨s, hs, rfl⟩ := List.mem_map.1 hx
    exact ⟨s, hs, hf⟩
  · rintro ⟨s, hs, hf⟩
    exact ⟨_, List.mem_map_of_mem hs, hf⟩
theorem sub_inside {f s : List Vx} (hf : Asc f) (hs : Asc s) : f.Sublist s ↔ insideV f s = true := by
  constructor
  · intro h
    unfold insideV
    rw [List.all_eq_true]
    intro x hx
    simpa using h.subset hx
  · intro h
    have hsub : ∀ x ∈ f, x ∈ s := fun x hx => by
      have := List.all_eq_true.1 h x hx
      simpa using this
    have e : sharedV s f true = f := asc_ext (asc_shared hs) hf fun x => by
      rw [mem_shared]
      constructor
      · intro ⟨_, h⟩; simpa using h
      · intro hx; exact ⟨hsub x hx, by simpa using hx⟩
    rw [← e]; exact shared_sub
theorem max_same {l : Cx} {d : Nat} (h : ∀ s ∈ l, s.length = d) (hd : 0 < d) {zs : Cx} (ha : AscL zs) (hm : ∀ x, x ∈ zs ↔ x ∈ l) : maxC l = zs := by
  refine ascL_ext (maxC_asc l) ha fun x => ?_
  rw [maxC_mem, hm]
  constructor
  · exact fun h => h.1
  · intro hx
    refine ⟨hx, ?_⟩
    unfold topC
    rw [h x hx, decide_eq_true hd, Bool.true_and, Bool.not_eq_true', Bool.eq_false_iff]
    intro hc
    obtain ⟨y, hy, hl, _⟩ := coveredC_iff.1 hc
    rw [h x hx, h y hy] at hl
    omega
end Go.Proofs.YtgppfikidagfpaaGreatDoor
namespace Go.Proofs.YtgppfikidagfpaaGreatDoor
theorem put_max {F : Cx} {d : Nat} (h : ∀ t ∈ F, t.length = d) (hd : 0 < d) : F.foldl putC [] = maxC F :=
  (max_same h hd (foldPut_asc (by simp [AscL])) fun x => by rw [foldPut_mem]; simp).symm
theorem cmp_color {a b : Vx} (h : a.1 < b.1) : cmpV a b < 0 := by
  unfold cmpV
  rw [if_pos h]; decide
def AscC (s : List Vx) : Prop := s.Pairwise fun a b => a.1 < b.1
theorem ascC_asc {s : List Vx} (h : AscC s) : Asc s := List.Pairwise.imp (fun h => cmp_color h) h
theorem asc_color {a b : Vx} (h : cmpV a b < 0) : a.1 ≤ b.1 := by
  unfold cmpV at h
  split at h
  · omega
  · split at h
    · omega
    · omega
theorem ascC_of : ∀ {s : List Vx}, Asc s → diffV s = true → AscC s
  | [], _, _ => List.Pairwise.nil
  | [a], _, _ => List.pairwise_singleton _ _
  | a :: b :: s, h, hd => by
    have h0 := List.pairwise_cons.1 h
    have h1 := asc_color (h0.1 b (by simp))
    have hab : a.1 ≠ b.1 ∧ diffV (b :: s) = true := by
      unfold diffV at hd
      simpa using hd
    have hr : AscC (b :: s) := ascC_of h0.2 hab.2
    refine List.pairwise_cons.2 ⟨fun x hx => ?_, hr⟩
    rcases List.mem_cons.1 hx with rfl | hx
    · have := hab.1; omega
    · have h2 := (List.pairwise_cons.1 hr).1 x hx
      have := hab.1; omega
theorem place_color (s : List Vx) (bl : List Nat) : (placeB s bl).map (·.1) = s.map (·.1) := by
  unfold placeB
  rw [List.map_map]
  have e : ((fun x : Vx => x.1) ∘ fun p : Vx × Nat => (p.1.1, ((snapB bl p.2 0 : Nat) : Int))) = (fun v : Vx => v.1) ∘ Prod.fst := rfl
  rw [e, ← List.map_map, List.zipIdx_map_fst]
theorem place_asc {s : List Vx} (h : AscC s) (bl : List Nat) : Asc (placeB s bl) := by
  refine ascC_asc ?_
  have h1 : ((placeB s bl).map (·.1)).Pairwise (· < ·) := by
    rw [place_color]
    exact List.pairwise_map.2 h
  exact List.pairwise_map.1 h1
theorem place_chk {s : List Vx} (hs : chkV s = 0) (hd : diffV s = true) {bl : List Nat} (hb : ∀ i, i < s.length → snapB bl i 0 ≤ 1048576) : chkV (placeB s bl) = 0 := by
  obtain ⟨h1, h2, h3, h4⟩ := chkV_zero.1 hs
  refine chkV_zero.2 ⟨by rw [placeB_len]; exact h1, by rw [placeB_len]; exact h2, fun v hv => ?_, place_asc (ascC_of h4 hd) bl⟩
  unfold placeB at hv
  obtain ⟨p, hp, rfl⟩ := List.mem_map.1 hv
  obtain ⟨q, i⟩ := p
  have hi := List.mem_zipIdx hp
  have hq : q ∈ s := by
    have := hi.2.2
    rw [this]
    exact List.getElem_mem _
  have hr := h3 q hq
  have hl := hb i (by omega)
  unfold rngV at hr ⊢
  simp only [Bool.and_eq_true, decide_eq_true_eq] at hr ⊢
  exact ⟨⟨hr.1.1, by omega⟩, by omega⟩
end Go.Proofs.YtgppfikidagfpaaGreatDoor
namespace Go.Proofs.YtgppfikidagfpaaGreatDoor
def facB (s : List Vx) : Cx := (ordP (2 ^ s.length - 1)).map (placeB s)
def carB (s : List Vx) (v : Vx) : List Vx := atB s v.2.toNat
abbrev Sub := Cx × List Vx × Cx
def subP (s : List Vx) : Sub × Int :=
  if chkV s ≠ 0 then (([], [], []), chkV s) else if diffV s = false then (([], [], []), 3) else if 5 < s.length then (([], [], []), 5)
  else ((maxC (facB s), allV [] (facB s).flatten, (allV [] (facB s).flatten).map (carB s)), 0)
theorem facB_len {s : List Vx} {t : List Vx} (h : t ∈ facB s) : t.length = s.length := by
  unfold facB at h
  obtain ⟨bl, _, rfl⟩ := List.mem_map.1 h
  exact placeB_len s bl
end Go.Proofs.YtgppfikidagfpaaGreatDoor
namespace Go.Proofs.YtgppfikidagfpaaGreatDoor.M
open Go.RowKit
section
variable {P : Program} {ops : Array Oper} {hp : List HObj} {o : Oper} {fr : List Dat} {d : Dat} {Q : Post} {rest : List Oper}
variable {dst : Option Tmp} {ty : TypeId} {ps : String} {af : Array Edge} {g : Option (Nat × Bool)}
theorem WL.alloc {T : TypeId} {n : Nat} {agg : Bool} {z : Value} (hz : TyZ P T z) (hs : (dX z).Shape n agg)
    (h : ∀ b, WL P ops Q rest (setD fr dst (dX (.pointer (some ⟨b, 0, none⟩)))) (hCell b T n agg (dX z) :: hp)) : WL P ops Q ({ dst := dst, op := .alloc T, type := ty, pos := ps, after := af, guard := none } :: rest) fr hp := by
  refine WL.of fun P0 B w0 w a hh hf => ?_
  obtain ⟨cs, k1, k0, k2, k3, k4⟩ := hs (fun _ => True) w z rfl
  have hrun : (execOp a.eval { dst := dst, op := .alloc T, type := ty, pos := ps, after := af, guard := none }).run P w = .ok (.value (.pointer (some ⟨w.heap.size, 0, none⟩))) (w.alloc (.cells cs.toArray T)) := by
    cases hq : P.info? T with
    | none => have := hz.out; simp [hq] at this
    | some i =>
      have hz' : i.zero = some z := by have := hz.out; simpa [hq] using this
      unfold execOp
      simp [Instr.alloc, zeroValue, typeInfo, hq, hz', newVar, newRow, k3]
  refine wpList_value rfl hrun ?_
  have hx := Ext.of_alloc w (.cells cs.toArray T)
  have hb : ∀ k, (hCell w.heap.size T n agg (dX z)).blk = some k → w.heap.size ≤ k ∧ k < (w.alloc (.cells cs.toArray T)).heap.size := fun k hk => by
    cases hk
    exact ⟨Nat.le_refl _, by simp⟩
  refine (h w.heap.size).on ⟨hh.h.push hx.b hb ⟨cs, z, alloc_get w _, k1, k0, k2, k4, rfl⟩, hh.d⟩ ?_
  exact Fr.put (hf.mono fun d _ hd => Hp.pushed hx.b (fun k hk => (hb k hk).1) hd) rfl

theorem WL.storeK {x : Operand} {t b n : Nat} {T T2 : TypeId} {agg : Bool} {d0 : Dat} (hT : TyI P T n agg) (hp0 : OpD fr (.tmp t) (dX (.pointer (some ⟨b, 0, none⟩)))) (hx : OpD fr x d) (hs : d.Shape n agg)
    (h : WL P ops Q rest (setD fr dst (dX undef)) (hCell b T2 n agg d :: hp)) : WL P ops Q ({ dst := dst, op := .store T (.tmp t) x, type := ty, pos := ps, after := af, guard := none } :: rest) fr (hCell b T2 n agg d0 :: hp) := by
  refine WL.of fun P0 B w0 w a hh hf => ?_
  obtain ⟨cs, u, c1, c2, c0, c3, c4, c5⟩ := hh.h.ok (hCell b T2 n agg d0) (by simp)
  have h1 := hx.ev hf
  obtain ⟨cs', k1, k0, k2, k3, k4⟩ := hs _ _ _ h1
  have h2 : a.eval (.tmp t) = .pointer (some ⟨b, 0, none⟩) := hp0.ev hf
  have hr := run_storeC (u := a.eval x) hT.size c1 c2 k1 k2 k3
  have hrun : (execOp a.eval { dst := dst, op := .store T (.tmp t) x, type := ty, pos := ps, after := af, guard := none }).run P w = .ok .skip (w.setRow b cs'.toArray) := by
    unfold execOp
    simp only [h2, Sem.run_bind, hr, Result.andThen_ok, Sem.run_pure]
  refine wpList_plain rfl fun K hK => ?_
  unfold Oper.wp
  rw [hrun]
  have hgr : w.grownBy (w.setRow b cs'.toArray) (hCell b T2 n agg d0).blk := grown_setRow
  have hok : (hCell b T2 n agg d).ok (fun k => Imm P0 B (hCell b T2 n agg d0 :: hp) k ∧ k < w.heap.size) (w.setRow b cs'.toArray) :=
    ⟨cs', a.eval x, setRow_heap w b _ _ _ _ c1, k1, k0, k2, k4, d.grown (d.bound h1) hgr (fun k hk hc => hc.1.2 _ (by simp) hk)⟩
  exact hK _ _ (h.on ⟨hh.h.write hgr (.inl rfl) hok, hh.d⟩ (Fr.put (hf.mono fun _ _ hd => Hp.written (o' := hCell b T2 n agg d) hgr (.inl rfl) hd) (d := dX undef) rfl))
theorem WL.freeze {t b n : Nat} {T : TypeId} {agg : Bool} (hp0 : fr[t]? = some (dX (.pointer (some ⟨b, 0, none⟩)))) (h : WL P ops Q rest (fr.set t (dP n agg d)) hp) : WL P ops Q rest fr (hCell b T n agg d :: hp) := by
  refine WL.of fun P0 B w0 w a hh hf => ?_
  obtain ⟨cs, u, c1, c2, c0, c3, c4, c5⟩ := hh.h.ok (hCell b T n agg d) (by simp)
  have hown := hh.h.own (hCell b T n agg d) (by simp) b rfl
  refine h.on ⟨hh.h.drop, hh.d⟩ ⟨hf.defers, by rw [hf.size, List.length_set], fun t' d' hd' => ?_⟩
  by_cases htt : t = t'
  · subst htt
    rw [List.getElem?_set] at hd'
    simp only [if_true] at hd'
    split at hd'
    · cases hd'
      have hv : a.tmps.getD t undef = .pointer (some ⟨b, 0, none⟩) := hf.rd t _ hp0
      rw [hv]
      refine ⟨b, 0, u, rfl, cells_of_obj c1 c2 c0 c3 c4 ⟨.inr hown.1, fun o' ho' hk => ?_⟩, d.weak c5 Imm.sub⟩
      exact (List.pairwise_cons.1 hh.h.apart).1 o' ho' b rfl hk
    · cases hd'
  · rw [List.getElem?_set_ne htt] at hd'
    exact d'.weak (hf.rd t' d' hd') Imm.sub
theorem WL.storeF {x : Operand} {t b n : Nat} {T T2 : TypeId} {agg : Bool} {d0 : Dat} (hT : TyI P T n agg) (hp0 : fr[t]? = some (dX (.pointer (some ⟨b, 0, none⟩)))) (hx : OpD fr x d) (hs : d.Shape n agg)
    (h : WL P ops Q rest (fr.set t (dP n agg d)) hp) : WL P ops Q ({ dst := none, op := .store T (.tmp t) x, type := ty, pos := ps, after := af, guard := none } :: rest) fr (hCell b T2 n agg d0 :: hp) :=
  WL.storeK hT (OpD.t hp0) hx hs (WL.freeze hp0 h)
end
end Go.Proofs.YtgppfikidagfpaaGreatDoor.M
namespace Go.Proofs.YtgppfikidagfpaaGreatDoor.M
open Go.RowKit

set_option maxHeartbeats 4000000 in
theorem cmpF_p (a b : List Vx) : Fn Tryz.prog 153 [dS Verts a, dS Verts b, dFun Tryz.prog (fun x : Vx × Vx => [dS RV x.1, dS RV x.2]) (fun x => dI (cmpV x.1 x.2))] (dI (cmpL a b)) := by
  (refine Fn.intro1 Tryz.func153 rfl rfl ?_; simp only [Tryz.ntmps153, List.length_cons, List.length_nil, Nat.reduceAdd, Nat.reduceSub, List.replicate_succ, List.replicate_zero, List.cons_append, List.nil_append])
  (repeat' (first | (apply WL.opG; (focus (apply SYG.yes; (exact want_none rfl); (first | (apply SY.move <;> (exact oD)) | (apply SY.assign <;> (exact oD)) | (apply SY.load; (exact tD); (exact OpD.t rfl))))); dsimp only [setD, z0, z1]) | refine WL.nil ?_ | refine WC.seqK fun Kx hK => ?_ | (refine hK _ _ ?_; clear hK) | refine WC.region ?_ | (apply WL.opG; (focus (apply SYG.yes; (exact want_none rfl); ((first | (apply SY.len; (exact oD); (exact nD); (exact uD)) | fail); all_goals infer_instance))); dsimp only [setD, z0, z1]) | refine WC.block ?_))
  (first | refine WC.know (t := 0) rfl le_K fun hl0 => ?_ | refine WC.know (t := 0) rfl le_A fun hl0 => ?_); simp only [maxLen] at hl0
  (first | refine WC.know (t := 1) rfl le_K fun hl1 => ?_ | refine WC.know (t := 1) rfl le_A fun hl1 => ?_); simp only [maxLen] at hl1
  (refine WC.loopU (X := Nat) (fun k => [(13, dI (k : Int)), (6, dA), (7, dA), (8, dA), (9, dA), (10, dA), (14, dA), (15, dA), (16, dA), (17, dA), (18, dA), (19, dA), (20, dA), (21, dA), (22, dA), (23, dA), (24, dA), (25, dA), (26, dA), (27, dA), (28, dA), (29, dA), (30, dA), (31, dA), (32, dA), (33, dA)]) (fun k => []) (fun k => a.length - k) (fun k => k ≤ a.length ∧ k ≤ b.length ∧ cmpL a b = cmpL (a.drop k) (b.drop k)) 0 ?start ?frame0 ?objs0 ?round)
  case start => exact ⟨Nat.zero_le _, Nat.zero_le _, rfl⟩
  case frame0 => ((try dsimp only [upds, z0, z1]); repeat (first | exact LeF.nil | refine LeF.co (k := ?_)))
  case objs0 => rfl
  case round =>
    rintro k ⟨h1, h2, h3⟩
    dsimp only [upds, z0, z1]
    ((repeat' (first | (apply WL.opG; (focus (apply SYG.yes; (exact want_none rfl); (first | (apply SY.move <;> (exact oD)) | (apply SY.assign <;> (exact oD)) | (apply SY.load; (exact tD); (exact OpD.t rfl))))); dsimp only [setD, z0, z1]) | refine WL.nil ?_ | refine WC.seqK fun Kx hK => ?_ | (refine hK _ _ ?_; clear hK) | (refine Kont.skip ?_; clear hK) | refine WC.region ?_ | (apply WL.alloc; (exact tzV); (first | exact shape_X rfl | exact shape_XV); (intro _; dsimp only [setD, z0, z1])) | (apply WL.storeF; (exact tD); rfl; (exact oD); (exact hD); dsimp only [setD, z0, z1]) | (apply WL.opG; (focus (apply SYG.yes; (exact want_none rfl); ((first | (apply SY.dynF (x := ((a[k], b[k]) : Vx × Vx)); (exact OpD.t rfl); (exact aD)) | ((first | apply SY.move | apply SY.assign | apply SY.lss | apply SY.geq | apply SY.neq) <;> (exact oD)) | ((first | apply SY.add) <;> first | exact oD | omega) | (apply SY.len; (exact oD); (exact nD); (exact uD)) | (apply SY.ixK; (exact eD); (exact oD); (exact oD); exact kD) | fail); all_goals infer_instance))); dsimp only [setD, z0, z1]) | (apply WC.condD; (exact oD); (all_goals intro h); (all_goals try (exfalso; first | omega | contradiction))) | (apply WC.condN; (exact oD); (all_goals intro h); (all_goals try (exfalso; first | omega | contradiction))) | refine WC.skip ?_ | refine WC.ret ?_ | refine WC.exit ?_ | refine WC.block ?_ | refine ThenD.n ?_ | refine ThenD.r ?_ | refine InBlockD.r ?_)); all_goals (first | ((repeat clear hK); (repeat clear Kx))))
    all_goals first
      | ((refine ⟨k + 1, ?_, by first | omega | (simp only; omega), rfl, ?_⟩; rotate_left; ((try dsimp only [upds, z0, z1]); repeat (first | exact LeF.nil | refine LeF.co (k := ?_))); (try dsimp only)); exact ⟨by omega, by omega, h3.trans (cmpL_step (by omega) (by omega) (by assumption))⟩)
      | ((refine ⟨trivial, _, rfl, ?_⟩; refine FinD.i ?_); rw [h3, cmpL_drop]; repeat' split) <;> first | rfl | contradiction | omega
theorem cmpL_p (a b : List Vx) : Fn Tryz.prog 121 [dS Verts a, dS Verts b] (dI (cmpL a b)) := by
  (refine Fn.intro1 Tryz.func121 rfl rfl ?_; simp only [Tryz.ntmps121, List.length_cons, List.length_nil, Nat.reduceAdd, Nat.reduceSub, List.replicate_succ, List.replicate_zero, List.cons_append, List.nil_append])
  ((repeat' (first | (apply WL.opG; (focus (apply SYG.yes; (exact want_none rfl); (first | (apply SY.move <;> (exact oD)) | (apply SY.assign <;> (exact oD))))); dsimp only [setD, z0, z1]) | refine WL.nil ?_ | refine WC.seqK fun Kx hK => ?_ | (refine hK _ _ ?_; clear hK) | refine WC.region ?_ | (apply WL.opG; (focus (apply SYG.yes; (exact want_none rfl); ((first | (apply SY.call (cmpF_p _ _) Tryz.call153; (exact aD)) | fail); all_goals infer_instance))); dsimp only [setD, z0, z1]) | refine WC.ret ?_)); all_goals (first | ((repeat clear hK); (repeat clear Kx))))
  all_goals ((refine ⟨trivial, _, rfl, ?_⟩; refine FinD.i ?_); try rfl)
theorem cmpL_x {I : Nat → Prop} {w : World} {u v : Value} {a b : List Vx} (hu : Verts I w u a) (hv : Verts I w v b) : Calls Tryz.prog 121 #[u, v] w fun e w' => e = .returned (.int .i64 (cmpL a b)) ∧ ∃ q os', w' = Go.Sort.grow (w.drewN q) os' := by
  have := (cmpL_p a b).out I w [u, v] rfl (fun i d hd => by
    match i with
    | 0 => cases hd; exact hu
    | 1 => cases hd; exact hv
    | i + 2 => simp at hd)
  exact this.mono fun e w' ⟨v, h1, h2, h3⟩ => ⟨by rw [h1]; exact congrArg _ h3, h2.grow⟩
end Go.Proofs.YtgppfikidagfpaaGreatDoor.M
namespace Go.Proofs
open Go.Shelf
def Tryz.sortS_ren : Go.Shelf.Ren := ⟨fun | 6 => 132 | 15 => 152 | 14 => 156 | 28 => 175 | 29 => 176 | 20 => 178 | 21 => 179 | 22 => 180 | 23 => 181 | 24 => 182 | 25 => 183 | 26 => 184 | 27 => 185 | 46 => 194 | 47 => 190 | 48 => 191 | 49 => 195 | 50 => 196 | 57 => 202 | n => n, fun | 22 => 37 | 24 => 22 | 25 => 111 | 3 => 3 | 39 => 187 | 0 => 0 | 53 => 207 | 55 => 209 | 4 => 4 | 46 => 201 | 45 => 200 | 50 => 119 | 5 => 5 | 9 => 9 | 66 => 218 | 70 => 222 | 76 => 230 | 77 => 231 | n => n, fun | n => n⟩
theorem Tryz.sortS : Go.Proofs.SlLaysF.n6 Tryz.prog Tryz.sortS_ren := {
  mixed := by kernel_rfl
  f6 := ⟨Tryz.f132.name, by decide, Tryz.func132.trans (congrArg some (by kernel_rfl))⟩
  f14 := ⟨Tryz.f156.name, by decide, Tryz.func156.trans (congrArg some (by kernel_rfl))⟩
  f15 := Tryz.func152.trans (congrArg some (by kernel_rfl))
  f20 := ⟨Tryz.f178.name, by decide, Tryz.func178.trans (congrArg some (by kernel_rfl))⟩
  f21 := ⟨Tryz.f179.name, by decide, Tryz.func179.trans (congrArg some (by kernel_rfl))⟩
  f22 := ⟨Tryz.f180.name, by decide, Tryz.func180.trans (congrArg some (by kernel_rfl))⟩
  f23 := ⟨Tryz.f181.name, by decide, Tryz.func181.trans (congrArg some (by kernel_rfl))⟩
  f24 := ⟨Tryz.f182.name, by decide, Tryz.func182.trans (congrArg some (by kernel_rfl))⟩
  f25 := ⟨Tryz.f183.name, by decide, Tryz.func183.trans (congrArg some (by kernel_rfl))⟩
  f26 := ⟨Tryz.f184.name, by decide, Tryz.func184.trans (congrArg some (by kernel_rfl))⟩
  f27 := ⟨Tryz.f185.name, by decide, Tryz.func185.trans (congrArg some (by kernel_rfl))⟩
  f28 := Tryz.func175.trans (congrArg some (by kernel_rfl))
  f29 := Tryz.func176.trans (congrArg some (by kernel_rfl))
  f46 := ⟨Tryz.f194.name, by decide, Tryz.func194.trans (congrArg some (by kernel_rfl))⟩
  f47 := Tryz.func190.trans (congrArg some (by kernel_rfl))
  f48 := Tryz.func191.trans (congrArg some (by kernel_rfl))
  f49 := ⟨Tryz.f195.name, by decide, Tryz.func195.trans (congrArg some (by kernel_rfl))⟩
  f50 := ⟨Tryz.f196.name, by decide, Tryz.func196.trans (congrArg some (by kernel_rfl))⟩
  f57 := ⟨Tryz.f202.name, by decide, Tryz.func202.trans (congrArg some (by kernel_rfl))⟩
  t0 := Tryz.underlying0
  a0 := Tryz.isAgg0
  z0 := Tryz.sizeOf0
  v0 := Tryz.zeroValue0
  t3 := Tryz.underlying3
  a3 := Tryz.isAgg3
  z3 := Tryz.sizeOf3
  v3 := Tryz.zeroValue3
  t4 := Tryz.underlying4
  a4 := Tryz.isAgg4
  z4 := Tryz.sizeOf4
  v4 := Tryz.zeroValue4
  t5 := Tryz.underlying5
  a5 := Tryz.isAgg5
  z5 := Tryz.sizeOf5
  v5 := Tryz.zeroValue5
  t9 := Tryz.underlying9
  a9 := Tryz.isAgg9
  z9 := Tryz.sizeOf9
  v9 := Tryz.zeroValue9
  t22 := Tryz.underlying37
  a22 := Tryz.isAgg37
  z22 := Tryz.sizeOf37
  v22 := Tryz.zeroValue37
  a24 := Tryz.isAgg22
  z24 := Tryz.sizeOf22
  t25 := Tryz.underlying111
  a25 := Tryz.isAgg111
  z25 := Tryz.sizeOf111
  v25 := Tryz.zeroValue111
  t39 := Tryz.underlying187
  a39 := Tryz.isAgg187
  z39 := Tryz.sizeOf187
  v39 := Tryz.zeroValue187
  t45 := Tryz.underlying200
  a45 := Tryz.isAgg200
  z45 := Tryz.sizeOf200
  v45 := Tryz.zeroValue200
  t46 := Tryz.underlying201
  a46 := Tryz.isAgg201
  z46 := Tryz.sizeOf201
  v46 := Tryz.zeroValue201
  t50 := Tryz.underlying119
  a50 := Tryz.isAgg119
  z50 := Tryz.sizeOf119
  v50 := Tryz.zeroValue119
  t53 := Tryz.underlying207
  a53 := Tryz.isAgg207
  z53 := Tryz.sizeOf207
  v53 := Tryz.zeroValue207
  t55 := Tryz.underlying209
  a55 := Tryz.isAgg209
  z55 := Tryz.sizeOf209
  v55 := Tryz.zeroValue209
  t66 := Tryz.underlying218
  a66 := Tryz.isAgg218
  z66 := Tryz.sizeOf218
  v66 := Tryz.zeroValue218
  t70 := Tryz.underlying222
  a70 := Tryz.isAgg222
  z70 := Tryz.sizeOf222
  v70 := Tryz.zeroValue222
  t76 := Tryz.underlying230
  a76 := Tryz.isAgg230
  z76 := Tryz.sizeOf230
  v76 := Tryz.zeroValue230
  t77 := Tryz.underlying231
  a77 := Tryz.isAgg231
  z77 := Tryz.sizeOf231
  v77 := Tryz.zeroValue231 }
end Go.Proofs
namespace Go.Proofs.YtgppfikidagfpaaGreatDoor
open Go.RowKit Go.Sort Go.Shelf
section
variable {w : World} {g n cap : Nat} {os : Array Obj} {cur : Array Value} {e : TypeId} {fz : Nat × Nat} {α : Type} [Inhabited α] {enc : α → Value}
theorem grownBy_sorted1 (d : Array α) : w.grownBy (sortWorld enc w g 0 n d os) (some g) := by
  refine ⟨rfl, rfl, rfl, by simp [sortWorld], fun k hk hne => ?_⟩
  unfold sortWorld
  rw [heap_grow_old _ _ (by simpa using hk)]
  have : g ≠ k := fun e => hne (by rw [e])
  simp [putRow, mapBlock, Sort.ahead, Array.getElem?_modify, this]
theorem heap_sorted1 (d : Array α) (hb : w.heap[g]? = some (.cells cur e fz)) :
    (sortWorld enc w g 0 n d os).heap[g]? = some (.cells (putCells enc 0 d cur) e fz) := by
  have hg : g < w.heap.size := (Array.getElem?_eq_some_iff.1 hb).1
  unfold sortWorld
  rw [heap_grow_old _ _ (by simpa using hg)]
  simp [putRow, mapBlock, Sort.ahead, Array.getElem?_modify, hb, onCells]
theorem holds_of_row1 {d : Array α} (hb : w.heap[g]? = some (.cells cur e (0, 0))) (ht : cur.toList.take d.size = d.toList.map enc) : Holds enc w g 0 d := by
  intro j hj
  refine ⟨?_, by simp [World.frozen?, hb]⟩
  have h1 : (cur.toList.take d.size)[j]? = (d.toList.map enc)[j]? := by rw [ht]
  rw [List.getElem?_take_of_lt hj] at h1
  simp only [World.cell?, hb, Nat.zero_add]
  simp only [Option.isSome_none, Bool.false_eq_true, if_false]
  rw [← Array.getElem?_toList, h1, getElem!_pos _ j hj]
  simp [hj]
theorem take_putCells1 (cur : Array Value) (d : Array α) (h : d.size ≤ cur.size) : (putCells enc 0 d cur).toList.take d.size = d.toList.map enc := by
  apply List.ext_getElem?
  intro j
  by_cases hj : j < d.size
  · rw [List.getElem?_take_of_lt hj, Array.getElem?_toList]
    simp [putCells, hj, show j < cur.size by omega]
  · rw [List.getElem?_take_eq_none (by omega), List.getElem?_eq_none (by simp; omega)]
end
theorem cmpL_lt_trans0 {a b c : List Vx} (h : cmpL a b < 0) (k : cmpL b c < 0) : cmpL a c < 0 := by
  obtain ⟨h1, h2⟩ := cmpL_trans a b c (by omega) (by omega)
  rcases Int.lt_or_eq_of_le h1 with h3 | h3
  · exact h3
  · have := h2 h3; omega
theorem swoL {α : Type} (f : α → List Vx) : SWO (ltOf fun x y : α => cmpL (f x) (f y)) where
  irrefl x := by simp [ltOf, cmpL_eq.2 (rfl : f x = f x)]
  trans x y z h h' := by
    simp only [ltOf, decide_eq_true_eq] at *
    exact cmpL_lt_trans0 h h'
  ntrans x y z h h' := by
    simp only [ltOf, decide_eq_false_iff_not] at *
    have e1 := cmpL_neg (f x) (f y)
    have e2 := cmpL_neg (f y) (f z)
    have e3 := cmpL_neg (f x) (f z)
    have := (cmpL_trans (f z) (f y) (f x) (by omega) (by omega)).1
    omega
section
variable {ops : Array Oper} {hp : List HObj} {fr : List Dat} {Q : Post} {rest : List Oper} {dst : Option Tmp} {ty : TypeId} {ps : String} {af : Array Edge}
theorem WL.sortS {x : Operand} {v : Value} {e : TypeId} {xs : List (List Vx)} {ats : Array TypeId} (hx : OpD fr x (dX v)) (hlen : xs.length < 4611686018427387904)
    (h : ∀ ys : List (List Vx), ys.Perm xs → ys.Pairwise (fun a b => ¬ cmpL b a < 0) → WL Tryz.prog ops Q rest (setD fr dst dA) (hRow v e Verts ys :: hp)) :
    WL Tryz.prog ops Q ({ dst := dst, op := .call { callee := .value (.func 132), args := #[x, .func 121], argTypes := ats }, type := ty, pos := ps, after := af, guard := none } :: rest) fr (hRow v e Verts xs :: hp) := by
  refine WL.of fun P0 B w0 w a hh hf => ?_
  have hok := hh.ok (hRow v e Verts xs) (by simp)
  obtain ⟨us, h1, h2, h3⟩ := hok
  have hev : a.eval x = v := hx.ev hf
  obtain ⟨hfl, hv⟩ := h2
  have hrun : (execOp a.eval { dst := dst, op := .call { callee := .value (.func 132), args := #[x, .func 121], argTypes := ats }, type := ty, pos := ps, after := af, guard := none }).run Tryz.prog w = .ok (.enter 132 #[v, .func (.func 121) #[] #[]]) w := by
    unfold execOp
    simp only [resolve]
    have he : (#[x, Operand.func 121] : Array Operand).map a.eval = #[v, .func (.func 121) #[] #[]] := by simp [hev]; rfl
    rw [he]
    simp [Act.eval, Deferred.ofValue, invoke, Tryz.call132]
  by_cases hne : xs = []
  · subst hne
    have hv0 : ∃ p cap, v = .slice p 0 cap := by
      rcases hv with ⟨hv, _⟩ | ⟨g, cap, cur, hv, _⟩
      · exact ⟨_, _, hv⟩
      · exact ⟨_, _, hv⟩
    obtain ⟨p, cap, hv0⟩ := hv0
    have hcon := AnyF.slices_SortFunc_none (P := Tryz.prog) (ρ := Tryz.sortS_ren) { Tryz.sortS with } p cap (.func (.func 121) #[] #[]) w
    change Calls Tryz.prog 132 _ _ _ at hcon
    refine wpList_plain rfl fun K hK => ?_
    unfold Oper.wp
    rw [hrun, hv0]
    refine hcon.mono fun e' w' ⟨he, hw'⟩ => ?_
    subst he
    subst hw'
    exact hK _ _ ((h [] (List.Perm.refl _) List.Pairwise.nil).on hh (hf.put (d := dA) trivial))
  have hpos : 0 < xs.length := List.length_pos_iff.2 hne
  rcases hv with ⟨_, hz⟩ | ⟨g, cap, cur, hv, hB, hg, hc1, hc2, hc3, hc4⟩
  · omega
  have hgb : g < w.heap.size := (Array.getElem?_eq_some_iff.1 hg).1
  let J : Nat → Prop := fun b => Imm P0 B (hRow v e Verts xs :: hp) b ∧ v.ownBlock ≠ some b
  let α := {p : Value × List Vx // p.1.oneCell' = true ∧ Verts J w p.1 p.2}
  let at0 : Fin xs.length → α := fun k => ⟨(us[k.1]'(by omega), xs[k.1]), h3 k.1 (by omega) k.2⟩
  haveI : Inhabited α := ⟨at0 ⟨0, hpos⟩⟩
  let enc : α → Value := fun p => p.1.1
  let d : Array α := (List.ofFn at0).toArray
  have hds : d.size = xs.length := by simp [d]
  have hdu : d.toList.map enc = us := by
    apply List.ext_getElem (by simp [d, h1])
    intro k a b
    simp [d, enc, at0]
  have hdx : d.toList.map (fun p => p.1.2) = xs := by
    apply List.ext_getElem (by simp [d])
    intro k a b
    simp [d, at0]
  have hown : v.ownBlock = some g := by rw [hv]; rfl
  have hH : Holds enc w g 0 d := holds_of_row1 hg (by rw [hds, hdu]; simpa using hc4)
  have hgr : ∀ (d' : Array α) (n : Nat) (os : Array Obj), w.grownBy (sortWorld enc w g 0 n d' os) (hRow v e Verts xs).blk := fun d' n os => by
    show w.grownBy _ v.ownBlock
    rw [hown]; exact grownBy_sorted1 d'
  have hmove : ∀ (p : α) (d' : Array α) (n : Nat) (os : Array Obj), Verts (fun b => J b ∧ b < w.heap.size) (sortWorld enc w g 0 n d' os) p.1.1 p.1.2 := fun p d' n os =>
    Good.move (Good.bound p.2.2) fun k hk hlt => (hgr d' n os).block k hlt fun he => hk.1.2 he.symm
  have hcon := Any.slices_SortFunc Tryz.sortS enc (fun p => p.2.1) (fun p q => cmpL p.1.2 q.1.2) (swoL fun p : α => p.1.2) 121 #[] g 0 cap d w Tryz.call121
    (fun m os dk _ p q => M.cmpL_x (hmove p dk m os) (hmove q dk m os)) hH hgb (by rw [hds]; exact hlen)
  change Calls Tryz.prog 132 _ _ _ at hcon
  refine wpList_plain rfl fun K hK => ?_
  unfold Oper.wp
  rw [hrun]
  have hva : v = .slice (some ⟨g, 0, none⟩) d.size cap := by rw [hds]; exact hv
  rw [← hva] at hcon
  refine hcon.mono fun e' w' ⟨he, d', n, os, hp1, hs, hw'⟩ => ?_
  subst he
  subst hw'
  obtain ⟨q1, _, q3⟩ := hp1
  have hperm : d'.toList.Perm d.toList := by
    have e1 : d'.extract 0 d.size = d' := by rw [← q1]; simp
    have e2 : d.extract 0 d.size = d := by simp
    rw [e1, e2] at q3
    exact q3
  have hys : (d'.toList.map fun p => p.1.2).Perm xs := by
    have := hperm.map (fun p : α => p.1.2)
    rwa [hdx] at this
  have hsort : (d'.toList.map fun p => p.1.2).Pairwise (fun a b => ¬ cmpL b a < 0) := by
    rw [List.pairwise_map, List.pairwise_iff_getElem]
    intro i j hi hj hij
    have hi' : i < d'.size := by simpa using hi
    have hj' : j < d'.size := by simpa using hj
    have := hs i j (Nat.zero_le _) hij (by omega)
    rw [getElem!_pos d' i hi', getElem!_pos d' j hj'] at this
    simpa [ltOf] using this
  have hlen' : (d'.toList.map fun p => p.1.2).length = xs.length := by simp; omega
  have hok : (hRow v e Verts (d'.toList.map fun p => p.1.2)).ok (fun k => Imm P0 B (hRow v e Verts xs :: hp) k ∧ k < w.heap.size) (sortWorld enc w g 0 n d' os) := by
    refine ⟨d'.toList.map enc, by simp, ⟨by simp, .inr ⟨g, cap, putCells enc 0 d' cur, ?_, hB, heap_sorted1 _ hg, by omega, hc2, by simp [putCells, hc3], ?_⟩⟩, fun k a b => ?_⟩
    · rw [hlen']; exact hv
    · rw [hlen', Nat.mul_one, ← hds, ← q1]
      exact take_putCells1 _ _ (by rw [q1, hds, hc3]; omega)
    · have hk : k < d'.toList.length := by simpa using a
      refine ⟨by rw [List.getElem_map]; exact d'.toList[k].2.1, ?_⟩
      rw [List.getElem_map, List.getElem_map]
      exact Good.weak (hmove d'.toList[k] d' n os) fun b hb => ⟨⟨hb.1.1, hb.2⟩, hb.1.2⟩
  exact hK _ _ ((h _ hys hsort).on (hh.write (hgr d' n os) (.inl rfl) hok) (Fr.put (hf.mono fun _ _ hd => Hp.written (o' := hRow v e Verts (d'.toList.map fun p => p.1.2)) (hgr d' n os) (.inl rfl) hd) (d := dA) trivial))
end
end Go.Proofs.YtgppfikidagfpaaGreatDoor
