/- Part 24: walks by contracts, and plain laws. -/
import Derived.Test.YtpiidgcljlalmaaVa23
set_option linter.unusedVariables false
set_option linter.unusedSimpArgs false
set_option linter.unusedSectionVars false
namespace Go.Proofs.Ytpiidgcljlalmaa
open Go.RowKit
abbrev S43.lk1 (t : S43.LS) : S43.LS := { seen := t.seen, out := t.out, opn := t.opn - 1 }
open S43 (SS LS up learnS topS topStep RInv Inv CInv lk0 lk1)
section
variable {P : Program} {f : FuncId} {fn : Func} {c : Code} {t u : Tmp} {ds : List Dat} {hp1 : List HObj} {K : Dat → List HObj → Prop}
def finC22 (t u : Nat) (K : Dat → List HObj → Prop) (hp : List HObj) : Post := fun e f q => (match e with | .normal | .ret => True | _ => False) ∧ ∃ d d' hp2, f[t]? = some d ∧ f[u]? = some d' ∧ q = hp2 ++ hp ∧ K (dT [d, d']) hp2
theorem CallC.intro2 (hf : P.funcs[f]? = some fn) (hb : fn.body = some c) (hr : fn.results = #[.tmp t, .tmp u])
    (h : ∀ hp, WC P (finC22 t u K hp) c (ds ++ List.replicate (fn.ntmps - ds.length) (dX undef)) (hp1 ++ hp)) : CallC P f ds hp1 K := ⟨fun P0 B w0 hp vs W hh hl hv => by
  refine calls_of_wp hf hb ?_
  have hf0 := fr_enter (m := fn.ntmps - ds.length) hl hv
  have hsz : vs.toArray.size = ds.length := by simp [hl]
  rw [hsz]
  refine Code.wp_mono (fun e a' w' ⟨f', p', q, hh', hf'⟩ => ?_) ((h hp).on hh hf0)
  obtain ⟨hx, d, d', hp2, hd, hd', rfl, hk'⟩ := q
  have hv := hf'.rd t d hd
  have hv' := hf'.rd u d' hd'
  have hT : (dT [d, d']).rd (Imm P0 B (hp2 ++ hp)) w' (.tuple #[a'.tmps.getD t undef, a'.tmps.getD u undef]) := ⟨[a'.tmps.getD t undef, a'.tmps.getD u undef], rfl, rfl, fun i e x he hx => by
    match i, he, hx with
    | 0, he, hx => cases he; cases hx; exact hv
    | 1, he, hx => cases he; cases hx; exact hv'⟩
  cases e with
  | normal => exact ⟨hf'.defers, _, results_tmp2 hr _ _ _, _, _, hp2, rfl, hk', hh', hT⟩
  | ret => exact ⟨hf'.defers, _, results_tmp2 hr _ _ _, _, _, hp2, rfl, hk', hh', hT⟩
  | _ => exact hx.elim⟩
end
section
variable {P : Program} {ops : Array Oper} {hp : List HObj} {fr : List Dat} {Q : Post} {rest : List Oper} {dst : Option Tmp} {ty : TypeId} {ps : String} {af : Array Edge} {t e : TypeId} {z : Value} {bytes : Nat}
theorem WL.litI {x : Operand} {n : Int} (E : ElT P t e 1 z bytes false) (hx : OpD fr x (dI n)) (h : ∀ v, WL P ops Q rest (setD fr dst (dX v)) (hRow v e RI [n] :: hp)) :
    WL P ops Q ({ dst := dst, op := .buildSlice t 1 #[(0, x)], type := ty, pos := ps, after := af, guard := none } :: rest) fr hp := by
  refine WL.of fun P0 B w0 w a hh hf => ?_
  obtain ⟨css, hr, hcl, hcn, hel⟩ := build_core (ops := ops) (dst := dst) (ty := ty) (ps := ps) (af := af) (g := none) (R := RI) (as1 := [n]) E (agg := false) (ElsD.cn hx ElsD.nl) rfl rfl (fun _ => shape_I) (by simp) hh (hf.on _)
  match css, hcl with
  | [cs], _ =>
    obtain ⟨u, hu, hR⟩ := hel 0 cs n rfl rfl
    simp only [Bool.false_eq_true, if_false] at hu
    subst hu
    refine wpList_value rfl hr ?_
    have hx := Ext.of_alloc w (.cells [[u]].flatten.toArray e)
    have hob : ∀ k, (hRow (.slice (some ⟨w.heap.size, 0, none⟩) 1 1) e RI [n]).blk = some k → w.heap.size ≤ k ∧ k < (w.alloc (.cells [[u]].flatten.toArray e)).heap.size := fun k hk => by
      cases hk
      exact ⟨Nat.le_refl _, by simp⟩
    refine (h _).on (hh.push (o := hRow (.slice (some ⟨w.heap.size, 0, none⟩) 1 1) e RI [n]) hx hob ⟨[u], rfl, ⟨rfl, .inr ⟨w.heap.size, 1, [u].toArray, rfl, Nat.zero_le _, alloc_get w _, Nat.le_refl _, by simp only [maxLen]; decide, rfl, rfl⟩⟩, fun k h h' => ?_⟩) (Fr.put (hf.mono fun d _ hd => Hp.pushed hx (fun k hk => (hob k hk).1) hd) rfl)
    have hk : k = 0 := by simpa using h
    subst hk
    exact ⟨(hcn [u] (by simp)).2 u (by simp), hR⟩
end
theorem ArgsX.four {fr : List Dat} {x y z u : Operand} {v1 v2 v3 v4 : Value} (h1 : OpD fr x (dX v1)) (h2 : OpD fr y (dX v2)) (h3 : OpD fr z (dX v3)) (h4 : OpD fr u (dX v4)) : ArgsX fr [x, y, z, u] [v1, v2, v3, v4] := ⟨rfl, fun i y u h1' h2' => by
  match i, h1', h2' with
  | 0, a, b => cases a; cases b; exact h1
  | 1, a, b => cases a; cases b; exact h2
  | 2, a, b => cases a; cases b; exact h3
  | 3, a, b => cases a; cases b; exact h4⟩
theorem WL.appKp {P : Program} {ops : Array Oper} {hp : List HObj} {fr : List Dat} {Q : Post} {rest : List Oper} {dst2 : Option Tmp} {ty2 : TypeId} {ps2 : String} {af2 : Array Edge} {t e : TypeId} {z : Value} {bytes : Nat} {ag : Bool} {s : Operand} {xs ys : List Int} {v u : Value} {i : Nat} (y : Nat) (E : ElT P t e 1 z bytes ag) (hs : OpD (fr.set y (dS Ints ys)) s (dX v)) (hi : (hRow v e RI xs :: hp)[i + 0]? = some (hRow u e RI ys)) (hy : fr[y]? = some (dX u)) (hby : 0 < bytes)
    (hlen : (xs.length + ys.length) * bytes ≤ 140737488355328) (h : ∀ v', WL P ops Q rest (setD (fr.set y (dS Ints ys)) dst2 (dX v')) (hRow v' e RI (xs ++ ys) :: hp.eraseIdx (i - 1))) (hi0 : 0 < i := by decide) :
    WL P ops Q ({ dst := dst2, op := .call { callee := .builtin .append, args := #[s, .tmp y], argTypes := #[t, t] }, type := ty2, pos := ps2, after := af2, guard := none } :: rest) fr (hRow v e RI xs :: hp) := by
  obtain ⟨j, rfl⟩ : ∃ j, i = j + 1 := ⟨i - 1, by omega⟩
  refine WL.perm (perm_at hi) (WL.keep1 hy ?_)
  have hl : y < fr.length := (List.getElem?_eq_some_iff.1 hy).1
  exact WL.app1 (R := RI) (_gR := inferInstance) E hs (OpD.t (by rw [List.getElem?_set]; simp [hl])) hby hlen h
theorem perm_vn {vn K S L B c7 c8 c6 : HObj} {hp : List HObj} : (vn :: K :: S :: L :: B :: c7 :: c8 :: c6 :: hp).Perm (K :: S :: L :: B :: c7 :: c8 :: c6 :: vn :: hp) := (List.perm_middle (l₁ := [K, S, L, B, c7, c8, c6])).symm
theorem mRowA {ι : Type} (A : List HObj) {L : List ι} {u : ι → Value} {e : TypeId} {c : ι → List Int} {i : ι} {xs : List Int} {B : List HObj} (h : i ∈ L) (hc : c i = xs) : hRow (u i) e RI xs ∈ A ++ (gO L u e c ++ B) := hc ▸ List.mem_append.2 (.inr (List.mem_append.2 (.inl (gO_mem h))))
theorem perm_lk {c8 c7 G O c6 K S V L R T B : HObj} {hp : List HObj} : (c8 :: c7 :: G :: O :: c6 :: K :: S :: V :: L :: R :: T :: B :: hp).Perm (K :: S :: L :: B :: c7 :: c8 :: c6 :: O :: G :: V :: R :: T :: hp) :=
  (perm_at (i := 5) rfl).trans (List.Perm.cons _ ((perm_at (i := 5) rfl).trans (List.Perm.cons _ ((perm_at (i := 6) rfl).trans (List.Perm.cons _ ((perm_at (i := 8) rfl).trans (List.Perm.cons _ ((perm_at (i := 1) rfl).trans (List.Perm.cons _ ((perm_at (i := 0) rfl).trans (List.Perm.cons _ ((perm_at (i := 2) rfl).trans (List.Perm.cons _ ((perm_at (i := 1) rfl).trans (List.Perm.cons _ ((perm_at (i := 0) rfl).trans (List.Perm.cons _ ((perm_at (i := 0) rfl).trans (List.Perm.cons _ ((perm_at (i := 0) rfl).trans (List.Perm.cons _ ((perm_at (i := 0) rfl).trans (List.Perm.cons _ (List.Perm.refl _))))))))))))))))))))))))
theorem RInv.bnd {V : Nat} {s : SS} {W : Int → List Nat} {E : Nat → Prop} (h : Inv V s W E) {p : Nat} {t : LS} (r : RInv s p t) : t.out.length ≤ V ∧ t.opn ≤ V := by
  constructor
  · refine S43.trail_len (fun y hy => ?_) r.dis
    have := h.trng _ (r.out y hy).1
    rw [Int.natAbs_neg] at this
    omega
  · rw [r.opn]
    unfold S43.cnt
    refine Nat.le_trans (List.length_filter_le _ _) ?_
    rw [List.length_take]
    have := h.toInv0.tlen
    omega
theorem tzIs : TyZ Try.prog 25 (.slice none 0 0) := ⟨by kernel_rfl⟩
theorem tzMb : TyZ Try.prog 76 (.map none) := ⟨by kernel_rfl⟩
theorem tzI : TyZ Try.prog 3 (.int .i64 0) := ⟨by kernel_rfl⟩
abbrev mkL (t : LS) (o : List Int) : LS := { seen := t.seen, out := o, opn := t.opn - 1 }
theorem filter_take {c : List Int} {x : Int} {j : Nat} (h : j < c.length) : (c.take (j + 1)).filter (fun y => decide (y ≠ x)) = (c.take j).filter (fun y => decide (y ≠ x)) ++ if c[j] = x then [] else [c[j]] := by
  rw [List.take_succ_eq_append_getElem h, List.filter_append]
  congr 1
  rw [List.filter_cons, List.filter_nil]
  by_cases e : c[j] = x
  · rw [if_pos e, if_neg (by simp [e])]
  · rw [if_neg e, if_pos (by simp [e])]
theorem top_swap {o : List Int} {i : Nat} {y z : Int} (hi : o.getD i 0 = y) (h1 : o.getD 1 0 = z) : (o.set i (o.getD 1 0)).set 1 (o.getD i 0) = (o.set 1 y).set i z := by
  rw [hi, h1]
  by_cases e : i = 1
  · subst e
    have : y = z := hi.symm.trans h1
    rw [this]
  · exact List.set_comm _ _ e
theorem SY.gtrB {P : Program} {ops : Array Oper} {hp : List HObj} {fr : List Dat} {dst : Option Tmp} {ty : TypeId} {ps : String} {af : Array Edge} {g : Option (Nat × Bool)} {T T2 : TypeId} {x y : Operand} {p q : Int} {b : Bool} (h : decide (q < p) = b) (hx : OpD fr x (dI p)) (hy : OpD fr y (dI q)) : SY P ops hp { dst := dst, op := .binOp .gtr T x y T2, type := ty, pos := ps, after := af, guard := g } fr (dB b) := h ▸ SY.gtr hx hy
abbrev lrO (X : Lay) (V : Nat) (s : SS) (v2 : Value) (b6 b7 b8 bm : Nat) (vo : Value) (t : LS) (B : List HObj) : List HObj :=
  kPtr X v2 :: oS X V s :: oL X s :: oB X s :: hCell b7 76 1 false (dX (.map (some bm))) :: hCell b8 tI 1 false (dI (t.opn : Int)) :: hCell b6 25 1 false (dX vo) :: hRow vo tI RI t.out :: hG bm kvI is64 vvB (pSeen t.seen) :: oV X s :: oR X s :: oT X s :: oW X :: oC X s :: (rowsC X s ++ (rowsW X V s ++ B))
theorem SY.reaH {ops : Array Oper} {hp : List HObj} {fr : List Dat} {dst : Option Tmp} {ty : TypeId} {ps : String} {af : Array Edge} {g : Option (Nat × Bool)} {b : Nat} {x y : Operand} {rea : Nat → Option Nat} {l r : Nat} (hu : rea l = some r) (hx : OpD fr x (dX (.map (some b)))) (hm : hG b kvI is64 kvI (pRea rea) ∈ hp) (hy : OpD fr y (dI (l : Int))) (ho : is64 (l : Int)) :
    SY Try.prog ops hp { dst := dst, op := .lookup 77 x y false, type := ty, pos := ps, after := af, guard := g } fr (dI (r : Int)) := by
  have := SY.reaG (ops := ops) (dst := dst) (ty := ty) (ps := ps) (af := af) (g := g) hx hm hy ho
  rwa [hu] at this
set_option linter.unusedSimpArgs false
set_option linter.unusedVariables false
set_option maxHeartbeats 2000000
set_option maxRecDepth 100000
set_option maxHeartbeats 32000000 in
theorem learn_w (X : Lay) (V : Nat) (s : SS) (k : Nat) (hV : V ≤ 100000) (hC : CInv V s k) (hb : s.begins ≠ []) (hs : s.list.length ≤ 1000000000000) :
    CallC Try.prog 76 ([dX (ptrS X), dI (k : Int)] ++ ([] : List Value).map dX) (full X V s) (fun d hp2 => ∃ v v2 b6 b7 b8 bm t, t.out = (learnS s k).1 ∧ d = dT [dX v, dI (((learnS s k).2 : Nat) : Int)] ∧ hp2 = lrO X V s v2 b6 b7 b8 bm v t []) := by
  obtain ⟨W, E, c, hI, hck, hcf, r0, ho0⟩ := S43.learn_start hC hb
  refine CallC.intro2 Try.func76 rfl rfl (fun hp => ?_)
  simp only [Try.ntmps76, List.length_cons, List.length_nil, List.length_append, List.length_map, Nat.reduceAdd, Nat.reduceSub, List.replicate_succ, List.replicate_zero, List.cons_append, List.nil_append, List.map_cons, List.map_nil, List.append_assoc]
  rw [fullE]
  simp only [core, List.cons_append, List.nil_append]
  (repeat' (first |  (refine WC.only 1 (Halt.go ?_)) | ((first | apply WL.opN | apply WD.opN); exact yF; dsimp only [setD, z0, z1]) | refine WL.nil ?_ | refine WC.seqK fun Kx hK => ?_ | (refine hK _ _ ?_; clear hK) | refine WC.region ?_ | ((first | apply WL.opG | apply WD.op); (focus (first | exact wN | (apply SYG.yes; (exact wY); ((first | (apply SY.box; (exact oD); (exact hD)) | fail); all_goals infer_instance)))); dsimp only [setD, z0, z1])))
  refine ⟨?_⟩
  refine WC.pin 2 rfl fun v2 => ?_
  dsimp only [z0, z1]
  (repeat' (first |  (refine WC.only 5 (WC.perm perm_lk (Halt.go ?_))) | ((first | apply WL.opN | apply WD.opN); exact yF; dsimp only [setD, z0, z1]) | refine WL.nil ?_ | refine WC.seqK fun Kx hK => ?_ | (refine hK _ _ ?_; clear hK) | refine WC.region ?_ |  (refine WL.alloc (T := 25) tzIs (shape_X rfl) fun b6 => WL.nilRow tI RI ?_; dsimp only [setD, z0, z1]) |  (refine WL.makeG kvI is64 vvB (pSeen fun _ => false) (fun _ => rfl) fun bm => ?_; dsimp only [setD, z0, z1]) |  (refine WL.alloc (T := 76) tzMb (shape_X rfl) fun b7 => ?_; dsimp only [setD, z0, z1]) |  (refine WL.ofSW (SW.storeK tyF (OpD.t rfl) (OpD.t rfl) (shape_X rfl)) fun _ => ?_; dsimp only [setD, z0, z1]) |  (refine WL.alloc (T := 3) tzI (shape_X rfl) fun b8 => ?_; dsimp only [setD, z0, z1]) |  (refine WL.ofSW (SW.storeK tyI (OpD.t rfl) OpD.i shape_I) fun _ => ?_; dsimp only [setD, z0, z1]) | ((first | apply WL.opG | apply WD.op); (focus (first | exact wN | (apply SYG.yes; (exact wY); ((first | (exact SY.makeX (vs := [ptrN b7, v2, ptrN b8, ptrN b6]) (ArgsX.four (OpD.t rfl) (OpD.t rfl) (OpD.t rfl) (OpD.t rfl))) | fail); all_goals infer_instance)))); dsimp only [setD, z0, z1])))
  refine ⟨?_⟩
  have eN : ((List.range s.list.length).map X.u).length = s.list.length := by simp
  have hku : ∀ (j : Nat) (h : j < ((List.range s.list.length).map X.u).length), ((List.range s.list.length).map X.u)[j] = X.u j := fun j h => by simp
  have hkl : k < s.list.length := (List.getElem?_eq_some_iff.1 hck).1
  have hkr : k ∈ List.range s.list.length := List.mem_range.2 hkl
  have hkN : k < ((List.range s.list.length).map X.u).length := by rw [eN]; exact hkl
  have hckd : s.list.getD k [] = c := by rw [List.getD_eq_getElem?_getD, hck]; rfl
  have htl := hI.toInv0.tlen
  have hcl : c.length ≤ V := S43.trail_len (hI.rng c (List.mem_of_getElem? hck)) (hI.dis c (List.mem_of_getElem? hck))
  have hlr : learnS s k = topS s (S43.resolve s s.trail.length (c.foldl (S43.look s) lk0)) := by unfold learnS; rw [hckd]
  (repeat' (first | ((first | apply WL.opN | apply WD.opN); exact yF; dsimp only [setD, z0, z1]) | refine WL.nil ?_ | (refine hK _ _ ?_; clear hK) | refine WC.region ?_ | ((first | apply WL.opG | apply WD.op); (focus (first | exact wN | (apply SYG.yes; (exact wY); ((first | (exact SY.loadKn tyC (OpD.t rfl) (mAt 0 rfl)) | (exact SY.nilCk (OpD.t rfl)) | (refine SY.fldS strS (OpD.t rfl) (by decide)) | (apply SY.loadS; exact tySS; exact OpD.t rfl; exact mAt 1 rfl; rfl) | (exact SY.ixR elSi (OpD.t rfl) (mAt 13 rfl) (OpD.t rfl) rfl hkN) | (exact SY.loadRX tySi (OpD.t rfl) (mAt 13 rfl) hkN (hku k hkN)) | (exact SY.lenRE rfl (OpD.t rfl) (mRowA [_, _, _, _, _, _, _, _, _, _, _, _, _, _] hkr hckd) elI.unt) | fail); all_goals infer_instance)))); dsimp only [setD, z0, z1]) | refine WC.block ?_))
  (refine WC.loopU (X := Nat × Value) (fun x => [(29, dI (x.1 : Int)), (11, dA), (30, dA), (31, dA), (32, dA), (33, dA), (34, dA), (35, dA), (36, dA)]) (fun x => (lrO X V s v2 b6 b7 b8 bm x.2 ((c.take x.1).foldl (S43.look s) lk0) hp)) (fun x => c.length - x.1) (fun x => x.1 ≤ c.length) (0, nilV) ?start ?frame0 ?objs0 ?round)
  case start => exact Nat.zero_le _
  case frame0 => ((try dsimp only [upds, z0, z1]); repeat (first | exact LeF.nil | refine LeF.co (k := ?_)))
  case objs0 => rfl
  case round =>
    rintro ⟨i, vo⟩ hi
    simp only at hi
    dsimp only [upds, z0, z1]
    have hpre := S43.looks_ok hI (c.take i) lk0 (S43.lk0_inv s.trail.length) (fun y hy => by rw [List.take_length]; exact hcf y (List.take_subset _ _ hy))
    obtain ⟨hb1, hb2⟩ := RInv.bnd hI hpre.1
    by_cases hil : i < c.length
    · have hle : (i : Int) < (c.length : Int) := by omega
      have hx := hI.rng c (List.mem_of_getElem? hck) _ (List.getElem_mem hil)
      have hlk := look_c X V s v2 b6 b7 b8 bm vo ((c.take i).foldl (S43.look s) lk0) c[i] (by omega) (by omega) (by omega)
      ((repeat' (first | ((first | apply WL.opN | apply WD.opN); exact yF; dsimp only [setD, z0, z1]) | refine WL.nil ?_ | refine WC.seqK fun Kx hK => ?_ | (refine hK _ _ ?_; clear hK) | refine WC.region ?_ |  (refine WL.callC (hp1 := lkO X V s v2 b6 b7 b8 bm vo ((c.take i).foldl (S43.look s) lk0)) (caps := [ptrN b7, v2, ptrN b8, ptrN b6]) hlk Try.call100 (OpD.t rfl) (ArgsD.cons (OpD.t rfl) ArgsD.nil) ?_; rintro d' hp2 ⟨vo', rfl⟩; dsimp only [setD, z0, z1, List.cons_append, List.nil_append]) | ((first | apply WL.opG | apply WD.op); (focus (first | exact wN | (apply SYG.yes; (exact wY); ((first | (exact SY.ixR elI (OpD.t rfl) (mRowA [_, _, _, _, _, _, _, _, _, _, _, _, _, _] hkr hckd) (OpD.t rfl) rfl hil) | (exact SY.loadRE tyI (OpD.t rfl) (mRowA [_, _, _, _, _, _, _, _, _, _, _, _, _, _] hkr hckd) hil rfl) | ((first | apply SY.move | apply SY.assign | apply SY.lss | apply SY.gtr | apply SY.eql | apply SY.neq | apply SY.not) <;> (exact oD)) | ((first | apply SY.add | apply SY.sub) <;> first | exact oD | omega) | fail); all_goals infer_instance)))); dsimp only [setD, z0, z1]) | (apply WC.condD; (exact oD); all_goals (intro h; try exact xD)) | refine WC.skip ?_ | refine WC.block ?_ | refine ThenD.n ?_)); all_goals (first | ((repeat clear hK); (repeat clear Kx))))
      all_goals try (exfalso; first | contradiction | omega)
      rw [← S43.look_take hil]
      (refine ⟨(i + 1, vo'), ?_, by first | omega | (simp only; omega), rfl, ?_⟩; rotate_left; ((try dsimp only [upds, z0, z1]); repeat (first | exact LeF.nil | refine LeF.co (k := ?_))); (try dsimp only))
      omega
    · obtain rfl : i = c.length := by omega
      have hle : ¬ (c.length : Int) < (c.length : Int) := by omega
      rw [List.take_length]
      obtain ⟨R, hR⟩ : ∃ R, S43.resolve s s.trail.length (c.foldl (S43.look s) lk0) = R := ⟨_, rfl⟩
      (repeat' (first | ((first | apply WL.opN | apply WD.opN); exact yF; dsimp only [setD, z0, z1]) | refine WL.nil ?_ | refine WC.seqK fun Kx hK => ?_ | (refine hK _ _ ?_; clear hK) | (refine Kont.skip ?_; clear hK) | refine WC.region ?_ | ((first | apply WL.opG | apply WD.op); (focus (first | exact wN | (apply SYG.yes; (exact wY); ((first | (exact SY.loadKn tyC (OpD.t rfl) (mAt 0 rfl)) | (exact SY.nilCk (OpD.t rfl)) | (refine SY.fldS strS (OpD.t rfl) (by decide)) | (apply SY.loadS; exact tySi; exact OpD.t rfl; exact mAt 1 rfl; rfl) | (apply SY.lenR; exact OpD.t rfl; exact mAt 11 rfl; exact elI.unt) | ((first | apply SY.move | apply SY.assign | apply SY.lss | apply SY.gtr | apply SY.eql | apply SY.neq | apply SY.not) <;> (exact oD)) | ((first | apply SY.add | apply SY.sub) <;> first | exact oD | omega) | fail); all_goals infer_instance)))); dsimp only [setD, z0, z1]) | (apply WC.condD; (exact oD); all_goals (intro h; try exact xD)) | refine WC.exit ?_ | refine WC.block ?_))
      all_goals try (exfalso; first | contradiction | omega)
      (refine WC.loopU (X := Nat × LS × Value) (fun x => [(12, dI ((x.1 : Int) - 1)), (13, dA), (15, dA), (43, dA), (44, dA), (45, dA), (46, dA), (47, dA), (48, dA), (49, dA), (50, dA), (51, dA), (52, dA), (53, dA), (54, dA), (55, dA), (56, dA), (57, dA), (58, dA), (59, dA), (60, dA), (61, dA), (62, dA), (63, dA), (64, dA), (65, dA), (66, dA), (67, dA), (68, dA), (69, dA), (70, dA), (71, dA), (72, dA), (73, dA), (74, dA), (75, dA), (76, dA), (77, dA), (78, dA), (79, dA), (80, dA), (81, dA), (82, dA), (83, dA), (84, dA), (85, dA), (86, dA), (87, dA), (88, dA), (89, dA), (90, dA), (91, dA), (92, dA), (93, dA), (94, dA), (95, dA), (96, dA), (97, dA), (98, dA)]) (fun x => (lrO X V s v2 b6 b7 b8 bm x.2.2 x.2.1 hp)) (fun x => x.1) (fun x => RInv s x.1 x.2.1 ∧ 1 ≤ x.2.1.opn ∧ x.1 ≤ s.trail.length ∧ S43.resolve s x.1 x.2.1 = R) (s.trail.length, c.foldl (S43.look s) lk0, vo) ?start ?frame0 ?objs0 ?round)
      case start => exact ⟨r0, ho0, Nat.le_refl _, hR⟩
      case frame0 => ((try dsimp only [upds, z0, z1]); repeat (first | exact LeF.nil | refine LeF.co (k := ?_)))
      case objs0 => rfl
      case round =>
        rintro ⟨p, t, vo1⟩ ⟨rp, ho1, hpl, hRp⟩
        simp only at rp ho1 hpl hRp
        dsimp only [upds, z0, z1]
        (repeat' (first | refine WC.seqK fun Kx hK => ?_ | refine WC.block ?_))
        (refine WC.loopU (X := Nat) (fun x => [(12, dI ((x : Int) - 1)), (43, dA), (44, dA), (45, dA), (46, dA), (47, dA), (48, dA), (49, dA), (50, dA), (51, dA), (52, dA), (53, dA), (54, dA), (55, dA)]) (fun x => (lrO X V s v2 b6 b7 b8 bm vo1 t hp)) (fun x => x) (fun x => RInv s x t ∧ x ≤ p ∧ S43.resolve s x t = R) p ?start ?frame0 ?objs0 ?round)
        case start => exact ⟨rp, Nat.le_refl _, hRp⟩
        case frame0 => ((try dsimp only [upds, z0, z1]); repeat (first | exact LeF.nil | refine LeF.co (k := ?_)))
        case objs0 => rfl
        case round =>
          rintro q ⟨rq, hqp, hRq⟩
          dsimp only [upds, z0, z1]
          have hq0 := RInv.pos rq ho1
          obtain ⟨q, rfl⟩ : ∃ q', q = q' + 1 := ⟨q - 1, by omega⟩
          have hqt : q < s.trail.length := by omega
          obtain ⟨x, hx⟩ : ∃ x, s.trail[q] = x := ⟨_, rfl⟩
          have hxe : s.trail[q]? = some x := by rw [List.getElem?_eq_getElem hqt, hx]
          have hxr := hI.trng x (by rw [← hx]; exact List.getElem_mem hqt)
          have hqi : ((q + 1 : Nat) : Int) - 1 = (q : Int) := by omega
          have hvx := variable_p x (by omega)
          have hx6 : is64 ((x.natAbs : Nat) : Int) := by unfold is64; omega
          obtain ⟨hb1, hb2⟩ := RInv.bnd hI rq
          rcases S43.resolve_step hI hxe rq ho1 with ⟨hse, rq', hre⟩ | ⟨hse, ho2, hre⟩ | ⟨hse, ho2, rr, c', hrea, hc', hcf', r1, r2, ho3, hre⟩
          · ((repeat' (first | ((first | apply WL.opN | apply WD.opN); exact yF; dsimp only [setD, z0, z1]) | refine WL.nil ?_ | refine WD.nil ?_ | refine WC.seqK fun Kx hK => ?_ | (refine hK _ _ ?_; clear hK) | refine WC.region ?_ | (apply WC.draw; kernel_rfl; kernel_rfl) | ((first | apply WL.opG | apply WD.op); (focus (first | exact wN | (apply SYG.yes; (exact wY); ((first | (apply SY.call (hvx) Try.call98; (exact aD)) | (exact SY.loadKn tyC (OpD.t rfl) (mAt 0 rfl)) | (exact SY.nilCk (OpD.t rfl)) | (refine SY.fldS strS (OpD.t rfl) (by decide)) | (apply SY.loadS; exact tySi; exact OpD.t rfl; exact mAt 1 rfl; rfl) | (apply SY.loadH tyF; exact OpD.t rfl; exact mAt 4 rfl) | (exact SY.ixR elI (OpD.t rfl) (mAt 11 rfl) (OpD.t rfl) hqi hqt) | (exact SY.loadRE tyI (OpD.t rfl) (mAt 11 rfl) hqt hx) | (exact SY.seenH hse (OpD.t rfl) (mAt 8 rfl) (OpD.t rfl) hx6) | ((first | apply SY.move | apply SY.assign | apply SY.lss | apply SY.gtr | apply SY.eql | apply SY.neq | apply SY.not) <;> (exact oD)) | ((first | apply SY.add | apply SY.sub) <;> first | exact oD | omega) | fail); all_goals infer_instance)))); dsimp only [setD, z0, z1]) | (apply WC.condNB; (exact oD); all_goals (intro h; try exact xD)) | refine WC.skip ?_ | refine WC.block ?_ | refine ThenD.n ?_ | refine InBlockD.n ?_)); all_goals (first | ((repeat clear hK); (repeat clear Kx))))
            all_goals try (exfalso; first | contradiction | omega)
            (refine ⟨q, ?_, by first | omega | (simp only; omega), rfl, ?_⟩; rotate_left; ((try dsimp only [upds, z0, z1]); repeat (first | exact LeF.nil | refine LeF.co (k := ?_))); (try dsimp only))
            exact ⟨rq', by omega, hre.symm.trans hRq⟩
          · have hcast : (t.opn : Int) - 1 = ((t.opn - 1 : Nat) : Int) := by omega
            have hz : ((t.opn - 1 : Nat) : Int) = 0 := by omega
            have h8 : ([-x].length + t.out.length) * 8 ≤ 140737488355328 := by simp; omega
            have hRr : R = -x :: t.out := by rw [← hRq, hre]
            (repeat' (first | ((first | apply WL.opN | apply WD.opN); exact yF; dsimp only [setD, z0, z1]) | refine WL.nil ?_ | refine WD.nil ?_ | refine WC.seqK fun Kx hK => ?_ | (refine hK _ _ ?_; clear hK) | (refine Kont.skip ?_; clear hK) | refine WC.region ?_ | (apply WC.draw; kernel_rfl; kernel_rfl) |  (refine WL.ofSW (SW.at 5 rfl fun q => SW.storeK tyI (OpD.t rfl) (OpD.t rfl) shape_I) fun _ => ?_; dsimp only [setD, z0, z1]) |  (refine WL.litI elI (OpD.t rfl) fun vl => ?_; dsimp only [setD, z0, z1]) |  (refine WL.appKp (i := 8) 72 elI (OpD.t rfl) rfl rfl (by decide) h8 fun vn => ?_; refine WL.rowIs (mAt 0 rfl) fun hvv => ?_; refine WL.perm perm_vn ?_; dsimp only [setD, z0, z1, List.eraseIdx_cons_succ, List.eraseIdx_cons_zero]) |  (refine WL.ofSW (SW.at 6 rfl fun q => SW.storeK tySi (OpD.t rfl) (OpD.t rfl) (shape_X hvv)) fun _ => ?_; dsimp only [setD, z0, z1]) | ((first | apply WL.opG | apply WD.op); (focus (first | exact wN | (apply SYG.yes; (exact wY); ((first | (apply SY.call (hvx) Try.call98; (exact aD)) | (exact SY.loadKn tyC (OpD.t rfl) (mAt 0 rfl)) | (exact SY.nilCk (OpD.t rfl)) | (refine SY.fldS strS (OpD.t rfl) (by decide)) | (apply SY.loadS; (first | exact tySi | exact tySS | exact tyFL); exact OpD.t rfl; exact mAt 1 rfl; rfl) | (apply SY.loadH tyF; exact OpD.t rfl; exact mAt 4 rfl) | (apply SY.loadH tyI; exact OpD.t rfl; exact mAt 5 rfl) | (exact SY.ixR elI (OpD.t rfl) (mAt 11 rfl) (OpD.t rfl) hqi hqt) | (exact SY.loadRE tyI (OpD.t rfl) (mAt 11 rfl) hqt hx) | (exact SY.seenH hse (OpD.t rfl) (mAt 8 rfl) (OpD.t rfl) hx6) | (exact hcast ▸ SY.sub (OpD.t rfl) OpD.i (by omega)) | (exact SY.neg (OpD.t rfl) (by omega)) | (apply SY.loadH tySi; exact OpD.t rfl; (first | exact mAt 7 rfl | exact mAt 6 rfl)) | (apply SY.lenR; exact OpD.t rfl; exact mAt 7 rfl; exact elI.unt) | ((first | apply SY.move | apply SY.assign | apply SY.lss | apply SY.gtr | apply SY.eql | apply SY.neq | apply SY.not) <;> (exact oD)) | ((first | apply SY.add | apply SY.sub) <;> first | exact oD | omega) | fail); all_goals infer_instance)))); dsimp only [setD, z0, z1]) | (apply WC.condD; (exact oD); all_goals (intro h; try exact xD)) | (apply WC.condNB; (exact oD); all_goals (intro h; try exact xD)) | refine WC.exit ?_ | refine WC.block ?_))
            all_goals try (exfalso; first | contradiction | omega)
            have hRl : ([-x] ++ t.out).length = R.length := by rw [hRr]; rfl
            rw [hRl, show [-x] ++ t.out = R from hRr.symm]
            have hRV : ∀ y ∈ R, y.natAbs ≤ V := fun y hy => by
              rw [hRr] at hy
              rcases List.mem_cons.1 hy with rfl | hy
              · omega
              · have := hI.trng _ (rq.out y hy).1
                omega
            have hRs : R.length ≤ V + 1 := by rw [hRr]; simp; omega
            (refine WC.loopU (X := Nat × List Int × Nat) (fun x => [(101, dI (x.1 : Int)), (16, dI (x.2.2 : Int)), (17, dA), (18, dA), (102, dA), (103, dA), (104, dA), (105, dA), (106, dA), (107, dA), (108, dA), (109, dA), (110, dA), (111, dA), (112, dA), (113, dA), (114, dA), (115, dA), (116, dA), (117, dA), (118, dA), (119, dA), (120, dA), (121, dA), (122, dA), (123, dA), (124, dA), (125, dA), (126, dA), (127, dA), (128, dA), (129, dA), (130, dA), (131, dA), (132, dA), (133, dA), (134, dA), (135, dA), (136, dA), (137, dA), (138, dA)]) (fun x => (lrO X V s v2 b6 b7 b8 bm vn (mkL t x.2.1) hp)) (fun x => R.length - x.1) (fun x => x.1 ≤ R.length ∧ x.2.1.length = R.length ∧ (List.range x.1).foldl (topStep s) (R, 0) = (x.2.1, x.2.2) ∧ ∀ y ∈ x.2.1, y.natAbs ≤ V) (0, R, 0) ?start ?frame0 ?objs0 ?round)
            case start => exact ⟨Nat.zero_le _, rfl, rfl, hRV⟩
            case frame0 => ((try dsimp only [upds, z0, z1]); repeat (first | exact LeF.nil | refine LeF.co (k := ?_)))
            case objs0 => rfl
            case round =>
              rintro ⟨i, o, lv⟩ ⟨hi, hol, hfo, hov⟩
              simp only at hi hol hfo hov
              dsimp only [upds, z0, z1]
              by_cases hil : i < R.length
              · have hle : (i : Int) < (R.length : Int) := by omega
                have hio : i < o.length := by omega
                obtain ⟨y, hy⟩ : ∃ y, o[i] = y := ⟨_, rfl⟩
                have hyd : o.getD i 0 = y := by rw [List.getD_eq_getElem?_getD, List.getElem?_eq_getElem hio, Option.getD_some, hy]
                have hyV := hov y (by rw [← hy]; exact List.getElem_mem hio)
                have hvy := variable_p y (by omega)
                have hy6 : is64 ((y.natAbs : Nat) : Int) := by unfold is64; omega
                have hfs : (List.range (i + 1)).foldl (topStep s) (R, 0) = topStep s (o, lv) i := by rw [List.range_succ, List.foldl_append, hfo]; rfl
                rcases Nat.eq_zero_or_pos i with hi0 | hi0
                · have hg : decide ((0 : Int) < (i : Int)) = false := by rw [hi0]; decide
                  have hts : topStep s (o, lv) i = (o, lv) := by unfold topStep; rw [if_neg (by omega)]
                  ((repeat' (first | ((first | apply WL.opN | apply WD.opN); exact yF; dsimp only [setD, z0, z1]) | refine WL.nil ?_ | refine WD.nil ?_ | refine WC.seqK fun Kx hK => ?_ | (refine hK _ _ ?_; clear hK) | refine WC.region ?_ | (apply WC.draw; kernel_rfl; kernel_rfl) | ((first | apply WL.opG | apply WD.op); (focus (first | exact wN | (apply SYG.yes; (exact wY); ((first | (exact SY.gtrB hg (OpD.t rfl) OpD.i) | (exact SY.ixR elI (OpD.t rfl) (mAt 7 rfl) (OpD.t rfl) rfl hio) | (exact SY.loadRE tyI (OpD.t rfl) (mAt 7 rfl) hio hy) | ((first | apply SY.move | apply SY.assign | apply SY.lss | apply SY.gtr | apply SY.eql | apply SY.neq | apply SY.not) <;> (exact oD)) | ((first | apply SY.add | apply SY.sub) <;> first | exact oD | omega) | (apply SY.pickF; (exact oD); (with_reducible rfl); (exact oD)) | fail); all_goals infer_instance)))); dsimp only [setD, z0, z1]) | (apply WC.condF; (exact oD); (with_reducible rfl)) | (apply WC.condD; (exact oD); all_goals (intro h; try exact xD)) | refine WC.skip ?_ | refine WC.block ?_ | refine ThenD.n ?_)); all_goals (first | ((repeat clear hK); (repeat clear Kx))))
                  all_goals try (exfalso; first | contradiction | omega)
                  (refine ⟨(i + 1, o, lv), ?_, by first | omega | (simp only; omega), rfl, ?_⟩; rotate_left; ((try dsimp only [upds, z0, z1]); repeat (first | exact LeF.nil | refine LeF.co (k := ?_))); (try dsimp only))
                  exact ⟨by omega, hol, hfs.trans hts, hov⟩
                · have hg : decide ((0 : Int) < (i : Int)) = true := by rw [decide_eq_true]; omega
                  have h1o : 1 < o.length := by omega
                  obtain ⟨z, hz1⟩ : ∃ z, o[1] = z := ⟨_, rfl⟩
                  have hzd : o.getD 1 0 = z := by rw [List.getD_eq_getElem?_getD, List.getElem?_eq_getElem h1o, Option.getD_some, hz1]
                  have hio' : i < (o.set 1 y).length := by rw [List.length_set]; exact hio
                  have h1o' : 1 < (o.set 1 y).length := by rw [List.length_set]; exact h1o
                  by_cases hlv : lv < s.lev y.natAbs
                  · have hts : topStep s (o, lv) i = ((o.set 1 y).set i z, s.lev y.natAbs) := by
                      have e1 : (0 < i ∧ (o, lv).2 < s.lev ((o, lv).1.getD i 0).natAbs) := ⟨hi0, by show lv < s.lev (o.getD i 0).natAbs; rw [hyd]; exact hlv⟩
                      unfold topStep
                      rw [if_pos e1]
                      show ((o.set i (o.getD 1 0)).set 1 (o.getD i 0), s.lev (o.getD i 0).natAbs) = _
                      rw [top_swap hyd hzd, hyd]
                    (repeat' (first |  (refine WC.drawE (id := 30) (β := Unit) 11 (fun _ => lrO X V s v2 b6 b7 b8 bm vn (mkL t (o.set 1 y)) hp) (fun _ => dX undef) _ rfl (by kernel_rfl) (by kernel_rfl) ?_; simp only [List.take_succ_cons, List.take_zero, List.drop_succ_cons, List.drop_zero]) | ((first | apply WL.opN | apply WD.opN); exact yF; dsimp only [setD, z0, z1]) | refine WL.nil ?_ | refine WD.nil ?_ | refine WC.seqK fun Kx hK => ?_ | (refine hK _ _ ?_; clear hK) | refine WC.region ?_ | (apply WC.draw; kernel_rfl; kernel_rfl) | ((first | apply WL.opG | apply WD.op); (focus (first | exact wN | (apply SYG.yes; (exact wY); ((first | (apply SY.call (hvy) Try.call98; (exact aD)) | (exact SY.gtrB hg (OpD.t rfl) OpD.i) | (exact SY.loadKn tyC (OpD.t rfl) (mAt 0 rfl)) | (exact SY.nilCk (OpD.t rfl)) | (refine SY.fldS strS (OpD.t rfl) (by decide)) | (apply SY.loadS; exact tyFL; exact OpD.t rfl; exact mAt 1 rfl; rfl) | (exact SY.levG (OpD.t rfl) (mAt 2 rfl) (OpD.t rfl) hy6) | (exact SY.ixR elI (OpD.t rfl) (mAt 7 rfl) (OpD.t rfl) rfl hio) | (exact SY.loadRE tyI (OpD.t rfl) (mAt 7 rfl) hio hy) | ((first | apply SY.move | apply SY.assign | apply SY.lss | apply SY.gtr | apply SY.eql | apply SY.neq | apply SY.not) <;> (exact oD)) | (apply SY.pickT; (exact oD); (with_reducible rfl); (exact oD)) | fail); all_goals infer_instance)))); dsimp only [setD, z0, z1]) | (apply WC.condD; (exact oD); all_goals (intro h; try exact xD)) | refine WC.skip ?_ | refine WC.block ?_))
                    all_goals try (exfalso; first | contradiction | omega)
                    (repeat' (first | refine WDe.nil ?_ | (apply WDe.early; (exact rfl); (focus (apply SYG.yes; (exact want_none rfl); ((first | (apply SY.loadH tySi; exact OpD.t rfl; exact mAt 6 rfl) | (exact SY.ixR elI (OpD.t rfl) (mAt 7 rfl) (OpD.t rfl) rfl hio) | (exact SY.ixR elI (OpD.t rfl) (mAt 7 rfl) OpD.i (k := 1) rfl h1o) | (exact SY.loadRE tyI (OpD.t rfl) (mAt 7 rfl) hio hy) | (exact SY.loadRE tyI (OpD.t rfl) (mAt 7 rfl) h1o hz1) | ((first | apply SY.move | apply SY.assign | apply SY.lss | apply SY.gtr | apply SY.eql | apply SY.neq | apply SY.not) <;> (exact oD)) | fail); all_goals infer_instance))); dsimp only [setD, z0, z1]) | (apply WDe.both; (focus (intro c; apply SYG.yes; (exact want_none rfl); ((first | (cases c <;> (apply SY.loadH tySi; exact OpD.t rfl; exact mAt 6 rfl)) | (cases c <;> first | exact SY.ixR elI (OpD.t rfl) (mAt 7 rfl) OpD.i (k := 1) rfl h1o | exact SY.ixR elI (OpD.t rfl) (mAt 7 rfl) OpD.i (k := 1) rfl h1o') | ((first | apply SY.move | apply SY.assign | apply SY.lss | apply SY.gtr | apply SY.eql | apply SY.neq | apply SY.not) <;> (exact oD)) | fail); all_goals infer_instance))); dsimp only [setD, z0, z1])))
                    refine ⟨SW.at 7 rfl fun q => SW.storeR (k := 1) tyI (OpD.t rfl) (OpD.t rfl) shape_I h1o, fun _ => ?_⟩
                    try dsimp only [setD, z0, z1]
                    ((repeat' (first | ((first | apply WL.opN | apply WD.opN); exact yF; dsimp only [setD, z0, z1]) | refine WL.nil ?_ | (refine hK _ _ ?_; clear hK) | refine WC.region ?_ |  (refine WL.ofSW (SW.at 7 rfl fun q => SW.storeR (k := i) tyI (OpD.t rfl) (OpD.t rfl) shape_I hio') fun _ => ?_; dsimp only [setD, z0, z1]) | ((first | apply WL.opG | apply WD.op); (focus (first | exact wN | (apply SYG.yes; (exact wY); ((first | (exact SY.ixR elI (OpD.t rfl) (mAt 7 rfl) (OpD.t rfl) rfl hio') | ((first | apply SY.add | apply SY.sub) <;> first | exact oD | omega) | fail); all_goals infer_instance)))); dsimp only [setD, z0, z1]) | refine ThenD.n ?_)); all_goals (first | ((repeat clear hK); (repeat clear Kx))))
                    all_goals try (exfalso; first | contradiction | omega)
                    (refine ⟨(i + 1, (o.set 1 y).set i z, s.lev y.natAbs), ?_, by first | omega | (simp only; omega), rfl, ?_⟩; rotate_left; ((try dsimp only [upds, z0, z1]); repeat (first | exact LeF.nil | refine LeF.co (k := ?_))); (try dsimp only))
                    refine ⟨by omega, by rw [List.length_set, List.length_set]; exact hol, hfs.trans hts, fun u hu => ?_⟩
                    rcases List.mem_or_eq_of_mem_set hu with hu | rfl
                    · rcases List.mem_or_eq_of_mem_set hu with hu | rfl
                      · exact hov u hu
                      · exact hyV
                    · exact hov _ (by rw [← hz1]; exact List.getElem_mem h1o)
                  · have hts : topStep s (o, lv) i = (o, lv) := by
                      unfold topStep
                      rw [if_neg]
                      rintro ⟨_, h2⟩
                      have h2 : lv < s.lev (o.getD i 0).natAbs := h2
                      rw [hyd] at h2
                      exact hlv h2
                    ((repeat' (first | ((first | apply WL.opN | apply WD.opN); exact yF; dsimp only [setD, z0, z1]) | refine WL.nil ?_ | refine WD.nil ?_ | refine WC.seqK fun Kx hK => ?_ | (refine hK _ _ ?_; clear hK) | refine WC.region ?_ | (apply WC.draw; kernel_rfl; kernel_rfl) | ((first | apply WL.opG | apply WD.op); (focus (first | exact wN | (apply SYG.yes; (exact wY); ((first | (apply SY.call (hvy) Try.call98; (exact aD)) | (exact SY.gtrB hg (OpD.t rfl) OpD.i) | (exact SY.loadKn tyC (OpD.t rfl) (mAt 0 rfl)) | (exact SY.nilCk (OpD.t rfl)) | (refine SY.fldS strS (OpD.t rfl) (by decide)) | (apply SY.loadS; exact tyFL; exact OpD.t rfl; exact mAt 1 rfl; rfl) | (exact SY.levG (OpD.t rfl) (mAt 2 rfl) (OpD.t rfl) hy6) | (exact SY.ixR elI (OpD.t rfl) (mAt 7 rfl) (OpD.t rfl) rfl hio) | (exact SY.loadRE tyI (OpD.t rfl) (mAt 7 rfl) hio hy) | ((first | apply SY.move | apply SY.assign | apply SY.lss | apply SY.gtr | apply SY.eql | apply SY.neq | apply SY.not) <;> (exact oD)) | ((first | apply SY.add | apply SY.sub) <;> first | exact oD | omega) | (apply SY.pickT; (exact oD); (with_reducible rfl); (exact oD)) | fail); all_goals infer_instance)))); dsimp only [setD, z0, z1]) | (apply WC.condD; (exact oD); all_goals (intro h; try exact xD)) | refine WC.skip ?_ | refine WC.block ?_ | refine ThenD.n ?_)); all_goals (first | ((repeat clear hK); (repeat clear Kx))))
                    all_goals try (exfalso; first | contradiction | omega)
                    (refine ⟨(i + 1, o, lv), ?_, by first | omega | (simp only; omega), rfl, ?_⟩; rotate_left; ((try dsimp only [upds, z0, z1]); repeat (first | exact LeF.nil | refine LeF.co (k := ?_))); (try dsimp only))
                    exact ⟨by omega, hol, hfs.trans hts, hov⟩
              · obtain rfl : i = R.length := by omega
                have hle : ¬ (R.length : Int) < (R.length : Int) := by omega
                ((repeat' (first | ((first | apply WL.opN | apply WD.opN); exact yF; dsimp only [setD, z0, z1]) | refine WL.nil ?_ | refine WC.seqK fun Kx hK => ?_ | (refine hK _ _ ?_; clear hK) | (refine Kont.skip ?_; clear hK) | refine WC.region ?_ | ((first | apply WL.opG | apply WD.op); (focus (first | exact wN | (apply SYG.yes; (exact wY); ((first | (apply SY.loadH tySi; exact OpD.t rfl; exact mAt 6 rfl) | ((first | apply SY.move | apply SY.assign | apply SY.lss | apply SY.gtr | apply SY.eql | apply SY.neq | apply SY.not) <;> (exact oD)) | fail); all_goals infer_instance)))); dsimp only [setD, z0, z1]) | (apply WC.condD; (exact oD); all_goals (intro h; try exact xD)) | refine WC.ret ?_ | refine WC.exit ?_)); all_goals (first | ((repeat clear hK); (repeat clear Kx))))
                all_goals try (exfalso; first | contradiction | omega)
                have htop : topS s R = (o, lv) := hfo
                rw [hlr, hR, htop]
                exact ⟨trivial, _, _, lrO X V s v2 b6 b7 b8 bm vn (mkL t o) [], rfl, rfl, by simp only [List.cons_append, List.append_assoc, List.nil_append], vn, v2, b6, b7, b8, bm, mkL t o, rfl, rfl, rfl⟩
          · have hcast : (t.opn : Int) - 1 = ((t.opn - 1 : Nat) : Int) := by omega
            have hz : ¬ ((t.opn - 1 : Nat) : Int) = 0 := by omega
            have hrl : rr < s.list.length := (List.getElem?_eq_some_iff.1 hc').1
            have hrr : rr ∈ List.range s.list.length := List.mem_range.2 hrl
            have hrN : rr < ((List.range s.list.length).map X.u).length := by rw [eN]; exact hrl
            have hcd' : s.list.getD rr [] = c' := by rw [List.getD_eq_getElem?_getD, hc']; rfl
            have hcl' : c'.length ≤ V := S43.trail_len (hI.rng c' (List.mem_of_getElem? hc')) (hI.dis c' (List.mem_of_getElem? hc'))
            (repeat' (first | ((first | apply WL.opN | apply WD.opN); exact yF; dsimp only [setD, z0, z1]) | refine WL.nil ?_ | refine WD.nil ?_ | refine WC.seqK fun Kx hK => ?_ | (refine hK _ _ ?_; clear hK) | (refine Kont.skip ?_; clear hK) | refine WC.region ?_ | (apply WC.draw; kernel_rfl; kernel_rfl) |  (refine WL.ofSW (SW.at 5 rfl fun q => SW.storeK tyI (OpD.t rfl) (OpD.t rfl) shape_I) fun _ => ?_; dsimp only [setD, z0, z1]) | ((first | apply WL.opG | apply WD.op); (focus (first | exact wN | (apply SYG.yes; (exact wY); ((first | (apply SY.call (hvx) Try.call98; (exact aD)) | (exact SY.loadKn tyC (OpD.t rfl) (mAt 0 rfl)) | (exact SY.nilCk (OpD.t rfl)) | (refine SY.fldS strS (OpD.t rfl) (by decide)) | (apply SY.loadS; (first | exact tySi | exact tySS | exact tyFL); exact OpD.t rfl; exact mAt 1 rfl; rfl) | (apply SY.loadH tyF; exact OpD.t rfl; exact mAt 4 rfl) | (apply SY.loadH tyI; exact OpD.t rfl; exact mAt 5 rfl) | (exact SY.ixR elI (OpD.t rfl) (mAt 11 rfl) (OpD.t rfl) hqi hqt) | (exact SY.loadRE tyI (OpD.t rfl) (mAt 11 rfl) hqt hx) | (exact SY.seenH hse (OpD.t rfl) (mAt 8 rfl) (OpD.t rfl) hx6) | (exact hcast ▸ SY.sub (OpD.t rfl) OpD.i (by omega)) | (exact SY.reaH hrea (OpD.t rfl) (mAt 10 rfl) (OpD.t rfl) hx6) | (exact SY.ixR elSi (OpD.t rfl) (mAt 13 rfl) (OpD.t rfl) rfl hrN) | (exact SY.loadRX tySi (OpD.t rfl) (mAt 13 rfl) hrN (hku rr hrN)) | (exact SY.lenRE rfl (OpD.t rfl) (mRowA [_, _, _, _, _, _, _, _, _, _, _, _, _, _] hrr hcd') elI.unt) | ((first | apply SY.move | apply SY.assign | apply SY.lss | apply SY.gtr | apply SY.eql | apply SY.neq | apply SY.not) <;> (exact oD)) | ((first | apply SY.add | apply SY.sub) <;> first | exact oD | omega) | fail); all_goals infer_instance)))); dsimp only [setD, z0, z1]) | (apply WC.condD; (exact oD); all_goals (intro h; try exact xD)) | (apply WC.condNB; (exact oD); all_goals (intro h; try exact xD)) | refine WC.skip ?_ | refine WC.exit ?_ | refine WC.block ?_))
            all_goals try (exfalso; first | contradiction | omega)
            (refine WC.loopU (X := Nat × Value) (fun x => [(88, dI (x.1 : Int)), (15, dA), (89, dA), (90, dA), (91, dA), (92, dA), (93, dA), (94, dA), (95, dA), (96, dA), (97, dA), (98, dA)]) (fun x => (lrO X V s v2 b6 b7 b8 bm x.2 (((c'.take x.1).filter fun y => decide (y ≠ s.trail[q])).foldl (S43.look s) (lk1 t)) hp)) (fun x => c'.length - x.1) (fun x => x.1 ≤ c'.length) (0, vo1) ?start ?frame0 ?objs0 ?round)
            case start => exact Nat.zero_le _
            case frame0 => ((try dsimp only [upds, z0, z1]); repeat (first | exact LeF.nil | refine LeF.co (k := ?_)))
            case objs0 => rfl
            case round =>
              rintro ⟨j, vo2⟩ hj
              simp only at hj
              dsimp only [upds, z0, z1]
              have hpre := S43.looks_ok hI ((c'.take j).filter fun y => decide (y ≠ s.trail[q])) (lk1 t) r1 (fun y hy => by
                obtain ⟨y1, y2⟩ := List.mem_filter.1 hy
                exact hcf' y (List.take_subset _ _ y1) (by rw [hx] at y2; exact of_decide_eq_true y2))
              obtain ⟨hb3, hb4⟩ := RInv.bnd hI hpre.1
              by_cases hjl : j < c'.length
              · have hle : (j : Int) < (c'.length : Int) := by omega
                have hyr := hI.rng c' (List.mem_of_getElem? hc') _ (List.getElem_mem hjl)
                have hft := filter_take (x := s.trail[q]) hjl
                by_cases hyx : c'[j] = x
                · rw [hx] at hft
                  rw [if_pos hyx, List.append_nil] at hft
                  ((repeat' (first | ((first | apply WL.opN | apply WD.opN); exact yF; dsimp only [setD, z0, z1]) | refine WL.nil ?_ | refine WC.seqK fun Kx hK => ?_ | (refine hK _ _ ?_; clear hK) | refine WC.region ?_ | ((first | apply WL.opG | apply WD.op); (focus (first | exact wN | (apply SYG.yes; (exact wY); ((first | (exact SY.ixR elI (OpD.t rfl) (mRowA [_, _, _, _, _, _, _, _, _, _, _, _, _, _] hrr hcd') (OpD.t rfl) rfl hjl) | (exact SY.loadRE tyI (OpD.t rfl) (mRowA [_, _, _, _, _, _, _, _, _, _, _, _, _, _] hrr hcd') hjl hyx) | ((first | apply SY.move | apply SY.assign | apply SY.lss | apply SY.gtr | apply SY.eql | apply SY.neq | apply SY.not) <;> (exact oD)) | ((first | apply SY.add | apply SY.sub) <;> first | exact oD | omega) | fail); all_goals infer_instance)))); dsimp only [setD, z0, z1]) | (apply WC.condD; (exact oD); all_goals (intro h; try exact xD)) | (apply WC.condN; (exact oD); all_goals (intro h; try exact xD)) | refine WC.skip ?_ | refine WC.block ?_ | refine ThenD.n ?_)); all_goals (first | ((repeat clear hK); (repeat clear Kx))))
                  all_goals try (exfalso; first | contradiction | omega)
                  rw [hx, ← hft]
                  (refine ⟨(j + 1, vo2) , ?_, by first | omega | (simp only; omega), by ((try simp only);  try rw [hx]), ?_⟩; rotate_left; ((try dsimp only [upds, z0, z1]); repeat (first | exact LeF.nil | refine LeF.co (k := ?_))); (try dsimp only))
                  omega
                · rw [hx] at hft
                  rw [if_neg hyx] at hft
                  have hlk := look_c X V s v2 b6 b7 b8 bm vo2 (((c'.take j).filter fun y => decide (y ≠ s.trail[q])).foldl (S43.look s) (lk1 t)) c'[j] (by omega) (by omega) (by omega)
                  ((repeat' (first | ((first | apply WL.opN | apply WD.opN); exact yF; dsimp only [setD, z0, z1]) | refine WL.nil ?_ | refine WC.seqK fun Kx hK => ?_ | (refine hK _ _ ?_; clear hK) | refine WC.region ?_ |  (refine WL.callC (hp1 := lkO X V s v2 b6 b7 b8 bm vo2 (((c'.take j).filter fun y => decide (y ≠ s.trail[q])).foldl (S43.look s) (lk1 t))) (caps := [ptrN b7, v2, ptrN b8, ptrN b6]) hlk Try.call100 (OpD.t rfl) (ArgsD.cons (OpD.t rfl) ArgsD.nil) ?_; rintro d' hp2 ⟨vo', rfl⟩; dsimp only [setD, z0, z1, List.cons_append, List.nil_append]) | ((first | apply WL.opG | apply WD.op); (focus (first | exact wN | (apply SYG.yes; (exact wY); ((first | (exact SY.ixR elI (OpD.t rfl) (mRowA [_, _, _, _, _, _, _, _, _, _, _, _, _, _] hrr hcd') (OpD.t rfl) rfl hjl) | (exact SY.loadRE tyI (OpD.t rfl) (mRowA [_, _, _, _, _, _, _, _, _, _, _, _, _, _] hrr hcd') hjl rfl) | ((first | apply SY.move | apply SY.assign | apply SY.lss | apply SY.gtr | apply SY.eql | apply SY.neq | apply SY.not) <;> (exact oD)) | ((first | apply SY.add | apply SY.sub) <;> first | exact oD | omega) | fail); all_goals infer_instance)))); dsimp only [setD, z0, z1]) | (apply WC.condD; (exact oD); all_goals (intro h; try exact xD)) | (apply WC.condN; (exact oD); all_goals (intro h; try exact xD)) | refine WC.skip ?_ | refine WC.block ?_ | refine ThenD.n ?_)); all_goals (first | ((repeat clear hK); (repeat clear Kx))))
                  all_goals try (exfalso; first | contradiction | omega)
                  have hfo : ((c'.take (j + 1)).filter fun y => decide (y ≠ s.trail[q])).foldl (S43.look s) (lk1 t) = S43.look s (((c'.take j).filter fun y => decide (y ≠ s.trail[q])).foldl (S43.look s) (lk1 t)) c'[j] := by
                    rw [hx, hft, List.foldl_append]; rfl
                  rw [← hfo]
                  (refine ⟨(j + 1, vo'), ?_, by first | omega | (simp only; omega), rfl, ?_⟩; rotate_left; ((try dsimp only [upds, z0, z1]); repeat (first | exact LeF.nil | refine LeF.co (k := ?_))); (try dsimp only))
                  omega
              · obtain rfl : j = c'.length := by omega
                have hle : ¬ (c'.length : Int) < (c'.length : Int) := by omega
                rw [List.take_length]
                ((repeat' (first | refine WL.nil ?_ | refine WC.seqK fun Kx hK => ?_ | (refine hK _ _ ?_; clear hK) | refine WC.region ?_ | ((first | apply WL.opG | apply WD.op); (focus (first | exact wN | (apply SYG.yes; (exact wY); ((first | ((first | apply SY.move | apply SY.assign | apply SY.lss | apply SY.gtr | apply SY.eql | apply SY.neq | apply SY.not) <;> (exact oD)) | fail); all_goals infer_instance)))); dsimp only [setD, z0, z1]) | (apply WC.condD; (exact oD); all_goals (intro h; try exact xD)) | refine WC.exit ?_ | refine ThenD.n ?_ | refine ThenD.x ?_ | refine InBlockD.x ?_ | refine InBlockD.n ?_)); all_goals (first | ((repeat clear hK); (repeat clear Kx))))
                all_goals try (exfalso; first | contradiction | omega)
                (refine ⟨(q, (c'.filter fun y => decide (y ≠ s.trail[q])).foldl (S43.look s) (lk1 t), vo2), ?_, by first | omega | (simp only; omega), rfl, ?_⟩; rotate_left; ((try dsimp only [upds, z0, z1]); repeat (first | exact LeF.nil | refine LeF.co (k := ?_))); (try dsimp only))
                rw [hx]
                exact ⟨r2, ho3, by omega, hre.symm.trans hRq⟩
end Go.Proofs.Ytpiidgcljlalmaa
