/-
  Part 21 of the texts that the claims of this seat lean on: walks of the program's functions by contracts over symbolic frames, and plain laws of what they compute. No condition.
-/
import Derived.Ground.Names8Prog
import Derived.Shelf.Spec.SlicesGrow
import Derived.Test.YtjbepoofigokjaaGreatProg
import Derived.Test.YtjbepoofigokjaaGreatVt9
import Derived.Test.YtjbepoofigokjaaGreatVt11
import Derived.Test.YtjbepoofigokjaaGreatVt14
import Derived.Test.YtjbepoofigokjaaGreatVt19
import Derived.Test.YtjbepoofigokjaaGreatVt20
set_option linter.unusedVariables false
set_option linter.unusedSimpArgs false
set_option linter.unusedSectionVars false
namespace Go.Proofs.YtjbepoofigokjaaGreat
open Go.RowKit
set_option maxHeartbeats 2000000
set_option linter.unusedSimpArgs false

abbrev apO (b : Nat) (xs : List (List Vx)) (hs : List HObj) : Prop := ∃ sv, hs = [hCell b 22 1 false (dX sv), hRow sv 34 Verts xs]
theorem tySj : TyI Tryz.prog 22 1 false := ⟨by kernel_rfl, Tryz.isAgg22⟩
set_option maxRecDepth 100000 in
set_option maxHeartbeats 8000000 in
theorem appendSeq_c {gf : FuncId} {lb : List Value} {hk : List HObj} {xs : List (List Vx)} (he : Enters Tryz.prog gf) (hS : SeqC Tryz.prog gf lb hk (fun x => dS Verts x) xs) (hl : xs.length ≤ 1000000) :
    CallC Tryz.prog 168 ([dX (.slice none 0 0), dX (.func (.func gf) #[] lb.toArray)] ++ ([] : List Value).map dX) hk (fun d hp2 => ∃ v, d = dX v ∧ hp2 = hRow v 34 Verts xs :: hk) := ⟨fun P0 B w0 hp vs W hh hl0 hv => by
  refine (callsIn_wide (n := 0)).1 (callsIn_of_wp_marks Tryz.func168 rfl trivial ?_ rfl)
  refine wpIn_wide.2 ?_
  have hf0 := fr_enter (m := 11) hl0 hv
  have hsz : vs.toArray.size = 2 := by simpa using hl0
  rw [hsz]
  have hnt : Tryz.f168.ntmps = 13 := rfl
  rw [hnt]
  simp only [List.length_cons, List.length_nil, Nat.reduceAdd, Nat.reduceSub, List.replicate_succ, List.replicate_zero, List.cons_append, List.nil_append, List.map_nil] at hf0 ⊢
  refine wp_seq (Code.wp_mono ?_ (WC.on (Q := fun e f q => e = .normal ∧ ∃ b, f = [dX (.slice none 0 0), dX (.func (.func gf) #[] lb.toArray), dX (.pointer (some ⟨b, 0, none⟩)), dX undef, dX (.slice none 0 0), dX undef, dX undef, dX undef, dX undef, dX undef, dX undef, dX undef, dX undef] ∧ q = [hCell b 22 1 false (dX (.slice none 0 0)), hRow (.slice none 0 0) 34 Verts []] ++ (hk ++ hp)) ?_ hh hf0))
  rotate_left
  · refine WC.region ?_
    refine WL.nilRow 34 Verts ?_
    refine WL.boxC (OpD.t rfl) (shape_X rfl) fun b => ?_
    dsimp only [setD, z0, z1]
    refine WL.op rfl (SY.assign OpD.x) (WL.nil ?_)
    exact ⟨rfl, b, rfl, rfl⟩
  rintro e a1 w1 ⟨f1, q1, ⟨rfl, b, rfl, rfl⟩, hh1, hf1⟩
  show Code.wp _ _ _ _ _
  refine wp_seq ?_
  refine wp_seq (Code.wp_mono ?_ (WC.on (Q := fun e f q => e = .normal ∧ f = [dX (.slice none 0 0), dX (.func (.func gf) #[] lb.toArray), dX (.pointer (some ⟨b, 0, none⟩)), dX undef, dX (.slice none 0 0), dX undef, dX (.func (.func gf) #[] lb.toArray), dX undef, dX undef, dX undef, dX undef, dX undef, dX undef] ∧ q = [hCell b 22 1 false (dX (.slice none 0 0)), hRow (.slice none 0 0) 34 Verts []] ++ (hk ++ hp)) ?_ hh1 hf1))
  rotate_left
  · refine WC.region ?_
    refine WL.op rfl (SY.move (OpD.t rfl)) (WL.nil ?_)
    exact ⟨rfl, rfl, rfl⟩
  rintro e a2 w2 ⟨f2, q2, ⟨rfl, rfl, rfl⟩, hh2, hf2⟩
  show Code.wp _ _ _ _ _
  refine wp_block ?_
  refine wp_rangeC (hs0 := [_, _]) (hk := hk) (hp := hp) (xs := xs) (D := fun x => dS Verts x) (apO b) _ (fun x => [dX (.slice none 0 0), dX (.func (.func gf) #[] lb.toArray), dX (.pointer (some ⟨b, 0, none⟩)), dX undef, dX (.slice none 0 0), dS Verts x, dX (.func (.func gf) #[] lb.toArray), dS Verts x, dX undef, dX undef, dX undef, dX undef, dX undef]) hh2 hf2 (OpD.t rfl) he hS ⟨_, rfl⟩ (by repeat (first | exact FixF.nil | apply FixF.x)) ?_ ?_ ?_
  · intro l x q
    refine WR.region rfl (I.WL.op rfl (SY.assign (OpD.t rfl)) (I.WL.nil ⟨rfl, rfl, rfl⟩))
  · rintro l pre x hs q hlt ⟨sv, rfl⟩
    refine WR.block (WR.region rfl ?_)
    refine I.WL.op rfl (SY.loadH tySj (OpD.t rfl) (.head _)) ?_
    dsimp only [setD, z0, z1, List.cons_append, List.nil_append]
    refine I.WL.op rfl (SY.move (OpD.t rfl)) ?_
    dsimp only [setD, z0, z1]
    refine I.WL.perm (List.Perm.swap _ _ _) (I.WL.push1 elSi (OpD.t rfl) (OpD.t rfl) (fun _ => shape_K) (by simp) (by simp) (by decide) (by omega) fun v' => ?_)
    dsimp only [setD, z0, z1]
    refine I.WL.knowRow (.head _) fun ⟨ad, c, hv'⟩ => ?_
    refine I.WL.perm (List.Perm.swap _ _ _) (I.WL.storeK tySj (OpD.t rfl) (OpD.t rfl) (shape_X (by rw [hv']; rfl)) (I.WL.nil ?_))
    exact ⟨rfl, _, ⟨v', rfl⟩, rfl⟩
  · rintro k hs w3 ⟨sv, rfl⟩ hh3 hrd
    show Code.wp _ _ _ _ _
    have hf3 : Fr (Imm P0 B (hObj k (.deferred (some [])) :: ([hCell b 22 1 false (dX sv), hRow sv 34 Verts xs] ++ (hk ++ hp)))) w3 { tmps := a2.tmps, defers := [] } _ := ⟨rfl, hf2.size, hrd⟩
    refine wp_seq (wp_region_lit ?_)
    refine wpList_defers rfl (SY.loadH tySj (OpD.t rfl) (.tail _ (.head _))) hh3 hf3 fun a4 w4 hd4 hh4 hf4 => ?_
    refine wpList_defers rfl (SY.assign (OpD.t rfl)) hh4 hf4 fun a5 w5 hd5 hh5 hf5 => ?_
    refine wpList_nil ?_
    show Code.wp _ _ _ _ _
    refine wp_ret ?_
    show LeavesInM _ _ _ _ _ _ _ _ _
    rw [hd5, hd4, hf2.defers]
    have hK : w5.heap[k]? = some (.deferred (some [])) := hh5.ok (hObj k (.deferred (some []))) (by simp)
    refine ⟨by simp, .inl ⟨_, _, rfl, run_takeDeferred hK, _, results_tmp rfl _ _ _, ?_⟩⟩
    have hh6 := (Hp.putObj (o' := .deferred none) hh5).drop.drop
    exact ⟨_, dX sv, hRow sv 34 Verts xs :: hk, rfl, ⟨sv, rfl, rfl⟩, hh6, hf5.rd 4 _ rfl⟩⟩
theorem collect_c {gf : FuncId} {lb : List Value} {hk : List HObj} {xs : List (List Vx)} (he : Enters Tryz.prog gf) (hS : SeqC Tryz.prog gf lb hk (fun x => dS Verts x) xs) (hl : xs.length ≤ 1000000) :
    CallC Tryz.prog 137 ([dX (.func (.func gf) #[] lb.toArray)] ++ ([] : List Value).map dX) hk (fun d hp2 => ∃ v, d = dX v ∧ hp2 = hRow v 34 Verts xs :: hk) := by
  (refine CallC.intro Tryz.func137 rfl rfl (fun hp => ?_); simp only [Tryz.ntmps137, List.length_cons, List.length_nil, List.length_append, List.length_map, Nat.reduceAdd, Nat.reduceSub, List.replicate_succ, List.replicate_zero, List.cons_append, List.nil_append, List.map_cons, List.map_nil, List.append_assoc])
  ((repeat' (first | (apply WL.opN; exact yF; dsimp only [setD, z0, z1]) | refine WL.nil ?_ | refine WC.seqK fun Kx hK => ?_ | (refine hK _ _ ?_; clear hK) | refine WC.region ?_ |  (refine WL.callC (caps := []) (appendSeq_c he hS hl) Tryz.call168 OpD.f (by (exact aD)) ?_; rintro d' hp2 ⟨v, rfl, rfl⟩; dsimp only [setD, z0, z1, List.cons_append, List.nil_append]) | refine WC.ret ?_)); all_goals (first | ((repeat clear hK); (repeat clear Kx))))
  exact ⟨trivial, _, _ :: hk, rfl, rfl, v, rfl, rfl⟩

theorem chkV_short {s : List Vx} (h : chkV s = 0) : s.length ≤ 8 := by
  unfold chkV at h
  split at h
  · cases h
  · split at h
    · cases h
    · omega
theorem facesP_p (s : List Vx) (k : Int) : Fn Tryz.prog 114 [dS Verts s, dI k] (dT [dS Simps (facesV s k).1, dI (facesV s k).2]) := by
  (refine Fn.intro2 Tryz.func114 rfl rfl ?_; simp only [Tryz.ntmps114, List.length_cons, List.length_nil, Nat.reduceAdd, Nat.reduceSub, List.replicate_succ, List.replicate_zero, List.cons_append, List.nil_append])
  ((repeat' (first | (apply WL.opN; exact yF; dsimp only [setD, z0, z1]) | refine WL.nil ?_ | refine WC.seqK fun Kx hK => ?_ | (refine hK _ _ ?_; clear hK) | refine WC.region ?_ |  (refine WL.callC (hp1 := []) (caps := []) (faces_k k.toNat s) Tryz.call138 OpD.f (by (exact aD)) ?_; rintro d' hp2 ⟨vk, vs, rfl, rfl⟩; dsimp only [setD, z0, z1, List.cons_append, List.nil_append]) |  (refine WL.callC (caps := []) (collect_c Tryz.call169 (seq_c k.toNat s (by have := chkV_short (by assumption); omega) (by have := chkV_short (by assumption); omega) vk vs) (by have := chkV_short (by assumption); have := subsV_len k.toNat s; have : 2 ^ s.length ≤ 2 ^ 8 := Nat.pow_le_pow_right (by decide) (by omega); omega)) Tryz.call137 OpD.f (by (exact aD)) ?_; rintro d' hp2 ⟨v, rfl, rfl⟩; dsimp only [setD, z0, z1, List.cons_append, List.nil_append]) | (apply WL.opG; (focus (first | exact wN | (apply SYG.yes; (exact wY); ((first | (apply SY.call (chk_p _) Tryz.call47; (exact aD)) | exact yMove | exact yLss | exact yGtr | exact yNeq | exact yLen | exact yPick | fail); all_goals infer_instance)))); dsimp only [setD, z0, z1]) | ((first | refine WL.caseP rfl rfl rfl (fun h => ?_) (fun h => ?_) | refine WL.caseN rfl rfl rfl (fun h => ?_) (fun h => ?_) | refine WL.caseB rfl rfl rfl (fun h => ?_) (fun h => ?_)) <;> (first | (exfalso; first | omega | contradiction) | (dsimp only [z0, z1]))) | (apply WC.condT; (exact oD); (with_reducible rfl)) | (apply WC.condD; (exact oD); all_goals (intro h; try exact xD)) | (apply WC.condN; (exact oD); all_goals (intro h; try exact xD)) | refine WC.skip ?_ | refine WC.ret ?_ | refine ThenD.r ?_)); all_goals (first | ((repeat clear hK); (repeat clear Kx))))
  · have e1 : facesV s k = ([], chkV s) := by unfold facesV; rw [if_pos h]
    rw [e1]; (refine ⟨trivial, ⟨_, rfl, ?_⟩, _, rfl, ?_⟩ <;> exact fD)
  · have e1 : facesV s k = ([], 2) := by unfold facesV; rw [if_neg (by simpa), if_pos (.inl h)]
    rw [e1]; (refine ⟨trivial, ⟨_, rfl, ?_⟩, _, rfl, ?_⟩ <;> exact fD)
  · have e1 : facesV s k = ([], 2) := by unfold facesV; rw [if_neg (by simpa), if_pos (.inr h)]
    rw [e1]; (refine ⟨trivial, ⟨_, rfl, ?_⟩, _, rfl, ?_⟩ <;> exact fD)
  · have e1 : facesV s k = (subsV k.toNat s, 0) := by unfold facesV; rw [if_neg (by simpa), if_neg (by omega)]
    rw [e1]; (refine ⟨trivial, ⟨_, rfl, ?_⟩, _, rfl, ?_⟩ <;> exact fD)
end Go.Proofs.YtjbepoofigokjaaGreat
namespace Go.Proofs.YtjbepoofigokjaaGreat
open Go.RowKit
set_option linter.unusedSimpArgs false

set_option maxHeartbeats 2000000
set_option maxRecDepth 100000
section
variable {P : Program} {f : FuncId} {fn : Func} {c : Code} {t u : Tmp} {ds : List Dat} {hp1 : List HObj} {K : Dat → List HObj → Prop}
def finC22 (t u : Nat) (K : Dat → List HObj → Prop) (hp : List HObj) : Post := fun e f q => (match e with | .normal | .ret => True | _ => False) ∧ ∃ d d' hp2, f[t]? = some d ∧ f[u]? = some d' ∧ q = hp2 ++ hp ∧ K (dT [d, d']) hp2
theorem CallC.intro2 (hf : P.funcs[f]? = some fn) (hb : fn.body = some c) (hr : fn.results = #[.tmp t, .tmp u])
    (h : ∀ hp, WC P (finC22 t u K hp) c (ds ++ List.replicate (fn.ntmps - ds.length) (dX undef)) (hp1 ++ hp)) : CallC P f ds hp1 K := ⟨fun P0 B w0 hp vs W hh hl hv => by
  refine calls_of_wp hf hb ?_
  have hf0 := fr_enter (m := fn.ntmps - ds.length) hl hv
  have hsz : vs.toArray.size = ds.length := by simp [hl]
  rw [hsz]
  refine Code.wp_mono (fun e a' w' ⟨f', p', q, hh', hf'⟩ => ?_) ((h hp).on hh hf0)
  obtain ⟨hx, d, d', hp2, hd, hd', rfl, hk'⟩ := q
  have hv := hf'.rd t d hd
  have hv' := hf'.rd u d' hd'
  have hT : (dT [d, d']).rd (Imm P0 B (hp2 ++ hp)) w' (.tuple #[a'.tmps.getD t undef, a'.tmps.getD u undef]) := ⟨[a'.tmps.getD t undef, a'.tmps.getD u undef], rfl, rfl, fun i e x he hx => by
    match i, he, hx with
    | 0, he, hx => cases he; cases hx; exact hv
    | 1, he, hx => cases he; cases hx; exact hv'⟩
  cases e with
  | normal => exact ⟨hf'.defers, _, results_tmp2 hr _ _ _, _, _, hp2, rfl, hk', hh', hT⟩
  | ret => exact ⟨hf'.defers, _, results_tmp2 hr _ _ _, _, _, hp2, rfl, hk', hh', hT⟩
  | _ => exact hx.elim⟩
end
theorem mapT_seen : MapT Tryz.prog 143 146 4 (.bool false) := ⟨Tryz.underlying143, fun w => by kernel_rfl⟩
abbrev vvB (b : Bool) : Value := .bool b
abbrev setM (o : Cx) : List (List Vx × Bool) := o.map fun f => (f, true)
abbrev hSet (b : Nat) (o : Cx) : HObj := hM b kvK vvB (setM o)
theorem setM_keys (o : Cx) : (setM o).map (·.1) = o := by unfold setM; rw [List.map_map]; exact List.map_id _
theorem lookM_set (o : Cx) (f : List Vx) : ((lookM (setM o) f).map vvB).getD (.bool false) = .bool (decide (f ∈ o)) := by
  unfold lookM setM
  by_cases h : f ∈ o
  · rw [decide_eq_true h]
    have : ∃ q, (o.map fun f => (f, true)).find? (fun p => decide (p.1 = f)) = some q ∧ q.2 = true := by
      have h1 : ((o.map fun f => (f, true)).find? (fun p => decide (p.1 = f))).isSome := by
        rw [List.find?_isSome]
        exact ⟨(f, true), List.mem_map_of_mem h, by simp⟩
      obtain ⟨q, hq⟩ := Option.isSome_iff_exists.1 h1
      refine ⟨q, hq, ?_⟩
      obtain ⟨x, _, rfl⟩ := List.mem_map.1 (List.mem_of_find?_eq_some hq)
      rfl
    obtain ⟨q, hq, hq2⟩ := this
    rw [hq]; simp [hq2]
  · rw [decide_eq_false h]
    have : (o.map fun f => (f, true)).find? (fun p => decide (p.1 = f)) = none := by
      rw [List.find?_eq_none]
      intro p hp
      obtain ⟨x, hx, rfl⟩ := List.mem_map.1 hp
      simp only [decide_eq_true_eq]
      intro e; exact h (e ▸ hx)
    rw [this]; rfl
theorem ok_key {s : List Vx} (h : chkV s = 0) : okK s := ⟨len_chk h, fun v hv => ⟨ok_vx h v hv, (rngV_iff.1 ((chkV_zero.1 h).2.2.1 v hv)).1⟩⟩
section
variable {ops : Array Oper} {hp : List HObj} {fr : List Dat} {d : Dat} {Q : Post} {rest : List Oper} {dst : Option Tmp} {ty : TypeId} {ps : String} {af : Array Edge} {g : Option (Nat × Bool)} {b : Nat} {o : Cx} {f : List Vx}
theorem SY.lookSet {x y : Operand} (hx : OpD fr x (dX (.map (some b)))) (hm : hSet b o ∈ hp) (hy : OpD fr y (dX (kvK f))) (hf : okK f) (ho : ∀ g ∈ o, okK g) (hn : o.Nodup) :
    SY Tryz.prog ops hp { dst := dst, op := .lookup 143 x y false, type := ty, pos := ps, after := af, guard := g } fr (dB (decide (f ∈ o))) := by
  have h := SY.lookM (dst := dst) (ty := ty) (ps := ps) (af := af) (g := g) (ops := ops) mapT_seen keyT_K hx hm hy isX hf (fun p hp => by obtain ⟨x, hx, rfl⟩ := List.mem_map.1 hp; exact ho x hx) (by rw [setM_keys]; exact hn)
  rw [lookM_set] at h
  exact h
theorem WL.putSet {x y c : Operand} (hx : OpD fr x (dX (.map (some b)))) (hy : OpD fr y (dX (kvK f))) (hc : OpD fr c (dX (.bool true))) (hf : okK f) (ho : ∀ g ∈ o, okK g) (hn : o.Nodup) (hnew : f ∉ o)
    (h : WL Tryz.prog ops Q rest (setD fr dst (dX undef)) (hSet b (o ++ [f]) :: hp)) :
    WL Tryz.prog ops Q ({ dst := dst, op := .mapUpdate 143 x y c, type := ty, pos := ps, after := af, guard := none } :: rest) fr (hSet b o :: hp) := by
  refine WL.putMap (u := true) mapT_seen keyT_K hx hy isX hc ⟨fun _ _ _ h => h⟩ hf (fun p hp => by obtain ⟨x, hx, rfl⟩ := List.mem_map.1 hp; exact ho x hx) (by rw [setM_keys]; exact hn) ?_
  have e : putM (setM o) f true = setM (o ++ [f]) := by
    rw [putM_new (fun p hp => by obtain ⟨x, hx, rfl⟩ := List.mem_map.1 hp; intro e; exact hnew (e ▸ hx))]
    simp [setM]
  rw [e]; exact h
end
theorem facC_good {l : Cx} (h : ∀ s ∈ l, chkV s = 0) {k : Nat} (hk : 0 < k) {n : Nat} (hn : n ≤ l.length) : ∀ f ∈ facC (l.take n) k, chkV f = 0 := fun f hf => by
  obtain ⟨s, hs, hf⟩ := allC_mem.1 (((facC_inv l k n hn).2 f).1 hf)
  exact (face_good (h s (List.mem_of_mem_take hs)) hk hf).1
def tooMany (l : Cx) (k : Nat) : Prop := 4096 < (allC l k).length
set_option maxHeartbeats 8000000 in
theorem faces_o (l : Cx) (k : Nat) (hk : 0 < k) (hg : ∀ s ∈ l, chkV s = 0) (hl : l.length ≤ 1000000) : CallC Tryz.prog 76 [dS Simps l, dI (k : Int)] []
    (fun d hp2 => (tooMany l k ∧ d = dT [dX (.slice none 0 0), dI 17] ∧ hp2 = []) ∨ (¬ tooMany l k ∧ ∃ v, d = dT [dX v, dI 0] ∧ hp2 = [hRow v 34 Verts (allC l k)])) := by
  refine CallC.drops (K := fun d hp2 => (tooMany l k ∧ d = dT [dX (.slice none 0 0), dI 17]) ∨ (¬ tooMany l k ∧ ∃ v o, d = dT [dX v, dI 0] ∧ hp2 = [hRow v 34 Verts (allC l k), o])) ?_ ?_
  rotate_left
  · rintro d hp2 (⟨h1, h2⟩ | ⟨h1, v, o, h2, rfl⟩)
    · exact ⟨hp2, [], by simp, .inl ⟨h1, h2, rfl⟩⟩
    · exact ⟨[o], [_], List.Perm.swap _ _ _, .inr ⟨h1, v, h2, rfl⟩⟩
  refine CallC.intro2 Tryz.func76 rfl rfl (fun hp => ?_)
  simp only [Tryz.ntmps76, List.length_cons, List.length_nil, Nat.reduceAdd, Nat.reduceSub, List.replicate_succ, List.replicate_zero, List.cons_append, List.nil_append]
  (repeat' (first | (apply WL.opN; exact yF; dsimp only [setD, z0, z1]) | refine WL.nil ?_ | refine WC.seqK fun Kx hK => ?_ | (refine hK _ _ ?_; clear hK) | refine WC.region ?_ |  (refine WL.makeMap kvK vvB fun b => ?_; dsimp only [setD, z0, z1]) | (apply WL.opN; (focus ((first | exact yLen | fail); all_goals infer_instance)); dsimp only [setD, z0, z1]) | refine WC.block ?_))
  refine WC.nilRow 34 Verts ?_
  (refine WC.loopU (X := Nat × Value × Cx) (fun x => [(17, dI (x.1 : Int)), (7, dX x.2.1), (4, dA), (5, dA), (9, dA), (10, dA), (11, dA), (13, dA), (18, dA), (19, dA), (20, dA), (21, dA), (22, dA), (23, dA), (24, dA), (25, dA), (26, dA), (27, dA), (28, dA), (29, dA), (30, dA), (31, dA), (32, dA), (33, dA), (34, dA), (35, dA), (36, dA), (37, dA), (38, dA), (39, dA), (40, dA), (41, dA), (42, dA), (43, dA), (44, dA), (45, dA), (46, dA), (47, dA), (48, dA), (49, dA), (50, dA), (51, dA), (52, dA), (53, dA), (54, dA), (55, dA), (56, dA)]) (fun x => (hRow x.2.1 34 Verts x.2.2 :: hSet b x.2.2 :: hp)) (fun x => l.length - x.1) (fun x => x.1 ≤ l.length ∧ x.2.2 = facC (l.take x.1) k ∧ x.2.2.length ≤ 4096) (0, .slice none 0 0, []) ?start ?frame0 ?objs0 ?round)
  case start => exact ⟨Nat.zero_le _, rfl, Nat.zero_le _⟩
  case frame0 => ((try dsimp only [upds, z0, z1]); repeat (first | exact LeF.nil | refine LeF.co (k := ?_)))
  case objs0 => rfl
  case round =>
    rintro ⟨i, v, o⟩ ⟨h1, h2, h3⟩
    simp only at h1 h2 h3
    dsimp only [upds, z0, z1]
    by_cases hil : i < l.length
    · by_cases hks : l[i].length < k
      · ((repeat' (first | (apply WL.opN; exact yF; dsimp only [setD, z0, z1]) | refine WL.nil ?_ | refine WC.seqK fun Kx hK => ?_ | (refine hK _ _ ?_; clear hK) | (refine Kont.skip ?_; clear hK) | refine WC.region ?_ | (apply WL.opN; (focus ((first | exact yLss | exact yAdd | exact yLen | exact yIndexaddr | fail); all_goals infer_instance)); dsimp only [setD, z0, z1]) | (apply WC.condD; (exact oD); all_goals (intro h; try exact xD)) | refine WC.skip ?_ | refine WC.exit ?_ | refine WC.block ?_ | refine ThenD.n ?_)); all_goals (first | ((repeat clear hK); (repeat clear Kx))))
        (refine ⟨(i + 1, v, o), ?_, by first | omega | (simp only; omega), rfl, ?_⟩; rotate_left; ((try dsimp only [upds, z0, z1]); repeat (first | exact LeF.nil | refine LeF.co (k := ?_))); (try dsimp only))
        refine ⟨by omega, ?_, h3⟩
        show o = _
        rw [facC_snoc hil, if_pos hks, h2]
      · have hgi := hg _ (List.getElem_mem hil)
        have hF : Fn Tryz.prog 114 [dS Verts l[i], dI (k : Int)] (dT [dS Simps (subsV k l[i]), dI 0]) := by
          have := facesP_p l[i] (k : Int)
          rwa [facesV_good hgi hk (by omega)] at this
        have hlen : (subsV k l[i]).length ≤ 256 := Nat.le_trans (subsV_len k l[i]) (Nat.pow_le_pow_right (by decide) (len_chk hgi) : 2 ^ l[i].length ≤ 2 ^ 8)
        (repeat' (first | (apply WL.opN; exact yF; dsimp only [setD, z0, z1]) | refine WL.nil ?_ | refine WC.seqK fun Kx hK => ?_ | (refine hK _ _ ?_; clear hK) | refine WC.region ?_ | (apply WL.opN; (focus ((first | (apply SY.call (hF) Tryz.call114; (exact aD)) | exact yLss | exact yNeq | exact yLen | exact yIndexaddr | exact yExtract | fail); all_goals infer_instance)); dsimp only [setD, z0, z1]) | (apply WC.condD; (exact oD); all_goals (intro h; try exact xD)) | (apply WC.condN; (exact oD); all_goals (intro h; try exact xD)) | refine WC.skip ?_ | refine WC.block ?_))
        (refine WC.loopU (X := Nat × Value × Cx) (fun x => [(36, dI (x.1 : Int)), (7, dX x.2.1), (13, dA), (37, dA), (38, dA), (39, dA), (40, dA), (41, dA), (42, dA), (43, dA), (44, dA), (45, dA), (46, dA), (47, dA), (48, dA), (49, dA), (50, dA), (51, dA), (52, dA)]) (fun x => (hRow x.2.1 34 Verts x.2.2 :: hSet b x.2.2 :: hp)) (fun x => (subsV k l[i]).length - x.1) (fun x => x.1 ≤ (subsV k l[i]).length ∧ x.2.2 = newC o ((subsV k l[i]).take x.1)) (0, v, o) ?start ?frame0 ?objs0 ?round)
        case start => exact ⟨Nat.zero_le _, rfl⟩
        case frame0 => ((try dsimp only [upds, z0, z1]); repeat (first | exact LeF.nil | refine LeF.co (k := ?_)))
        case objs0 => rfl
        case round =>
          rintro ⟨j, v', o'⟩ ⟨g1, g2⟩
          simp only at g1 g2
          have hol : o'.length ≤ 5000 := by
            have := (newC_len ((subsV k l[i]).take j) o).2
            rw [← g2, List.length_take] at this
            omega
          have hmem : ∀ f ∈ o', chkV f = 0 := fun f hf => by
            rw [g2, newC_mem] at hf
            rcases hf with hf | hf
            · rw [h2] at hf; exact facC_good hg hk h1 f hf
            · exact (face_good hgi hk (List.mem_of_mem_take hf)).1
          have hnd : o'.Nodup := by
            rw [g2]; refine newC_nodup ?_
            rw [h2]; exact (facC_inv l k i h1).1
          dsimp only [upds, z0, z1]
          by_cases hjl : j < (subsV k l[i]).length
          · have hfj := (face_good hgi hk (List.getElem_mem hjl)).1
            ((repeat' (first | (apply WL.opN; exact yF; dsimp only [setD, z0, z1]) | refine WL.nil ?_ | refine WC.seqK fun Kx hK => ?_ | (refine hK _ _ ?_; clear hK) | refine WC.region ?_ |  (refine WL.perm (List.Perm.swap _ _ _) ?_; refine WL.putSet (OpD.t rfl) (OpD.t rfl) OpD.x (ok_key hfj) (fun g hg => ok_key (hmem g hg)) hnd (by assumption) ?_; refine WL.perm (List.Perm.swap _ _ _) ?_; dsimp only [setD, z0, z1]) | ((first | apply WL.pushK | apply WL.push1); (exact eD); exact OpD.t rfl; (exact oD); (intro _; exact hD); (exact (by simp)); (exact (by simp)); (first | exact ⟨by decide, by decide⟩ | skip); decide; (exact lD); (intro _; dsimp only [setD, z0, z1]); all_goals (try infer_instance)) | (apply WL.opN; (focus ((first | (apply SY.call (keyed_p _ (len_chk hfj)) Tryz.call115; (exact aD)) | (refine SY.lookSet (OpD.t rfl) (.tail _ (.head _)) (OpD.t rfl) (ok_key hfj) (fun g hg => ok_key (hmem g hg)) hnd) | exact yLss | exact yNot | exact yAdd | exact yIndexaddr | fail); all_goals infer_instance)); dsimp only [setD, z0, z1]) | (apply WC.condD; (exact oD); all_goals (intro h; try exact xD)) | (apply WC.condN; (exact oD); all_goals (intro h; try exact xD)) | refine WC.skip ?_ | refine WC.block ?_ | refine ThenD.n ?_)); all_goals (first | ((repeat clear hK); (repeat clear Kx))))
            · rename_i v''
              (refine ⟨(j + 1, v'', o' ++ [(subsV k l[i])[j]]), ?_, by first | omega | (simp only; omega), rfl, ?_⟩; rotate_left; ((try dsimp only [upds, z0, z1]); repeat (first | exact LeF.nil | refine LeF.co (k := ?_))); (try dsimp only))
              refine ⟨by omega, ?_⟩
              show o' ++ _ = _
              rw [newC_snoc hjl, ← g2, if_neg h]
            · (refine ⟨(j + 1, v', o'), ?_, by first | omega | (simp only; omega), rfl, ?_⟩; rotate_left; ((try dsimp only [upds, z0, z1]); repeat (first | exact LeF.nil | refine LeF.co (k := ?_))); (try dsimp only))
              refine ⟨by omega, ?_⟩
              show o' = _
              rw [newC_snoc hjl, ← g2, if_pos h]
          · rw [List.take_of_length_le (by omega)] at g2
            have g3 : o' = facC (l.take (i + 1)) k := by rw [facC_snoc hil, if_neg hks, ← h2, g2]
            ((repeat' (first | (apply WL.opN; exact yF; dsimp only [setD, z0, z1]) | refine WL.nil ?_ | refine WC.seqK fun Kx hK => ?_ | (refine hK _ _ ?_; clear hK) | (refine Kont.skip ?_; clear hK) | refine WC.region ?_ | (apply WL.opN; (focus ((first | exact yLss | exact yGtr | exact yAdd | exact yLen | fail); all_goals infer_instance)); dsimp only [setD, z0, z1]) | (apply WC.condD; (exact oD); all_goals (intro h; try exact xD)) | refine WC.skip ?_ | refine WC.ret ?_ | refine WC.exit ?_ | refine ThenD.n ?_ | refine ThenD.r ?_ | refine InBlockD.r ?_)); all_goals (first | ((repeat clear hK); (repeat clear Kx))))
            · refine ⟨trivial, _, _, [_, _], rfl, rfl, rfl, .inl ⟨?_, rfl⟩⟩
              have := facC_mono (l := l) (k := k) (n := i + 1) (by omega)
              unfold tooMany
              rw [← g3] at this
              omega
            · (refine ⟨(i + 1, v', o'), ?_, by first | omega | (simp only; omega), rfl, ?_⟩; rotate_left; ((try dsimp only [upds, z0, z1]); repeat (first | exact LeF.nil | refine LeF.co (k := ?_))); (try dsimp only))
              exact ⟨by omega, g3, by omega⟩
    · have hil' : i = l.length := by omega
      subst hil'
      rw [List.take_length] at h2
      ((repeat' (first | (apply WL.opN; exact yF; dsimp only [setD, z0, z1]) | refine WL.nil ?_ | refine WC.seqK fun Kx hK => ?_ | (refine hK _ _ ?_; clear hK) | (refine Kont.skip ?_; clear hK) | refine WC.region ?_ |  (apply WL.sortS; exact OpD.t rfl; omega; intro ys hperm hsort; dsimp only [setD, z0, z1]) | (apply WL.opN; (focus ((first | exact yLss | fail); all_goals infer_instance)); dsimp only [setD, z0, z1]) | (apply WC.condD; (exact oD); all_goals (intro h; try exact xD)) | refine WC.ret ?_ | refine WC.exit ?_)); all_goals (first | ((repeat clear hK); (repeat clear Kx))))
      have hys : ys = allC l k := sorted_all (by rw [← h2]; exact hperm) hsort
      have hlen := facC_len l k l.length (Nat.le_refl _)
      rw [List.take_length, ← h2] at hlen
      subst hys
      refine ⟨trivial, _, _, [_, _], rfl, rfl, rfl, .inr ⟨?_, v, _, rfl, rfl⟩⟩
      unfold tooMany
      omega
end Go.Proofs.YtjbepoofigokjaaGreat
namespace Go.Proofs.YtjbepoofigokjaaGreat
open Go.RowKit
set_option linter.unusedSimpArgs false

set_option maxHeartbeats 2000000
set_option maxRecDepth 100000
theorem FinD.t2 {hp : List HObj} {a b a' b' : Dat} (h : FinD hp a a') (k : FinD hp b b') : FinD hp (dT [a, b]) (dT [a', b']) := FinD.mk fun {P0 B w0 w v} hh hd => by
  obtain ⟨vs, rfl, hl, hv⟩ := hd
  match vs, hl with
  | [x, y], _ =>
    refine ⟨[x, y], rfl, rfl, fun i d u hd hu => ?_⟩
    match i, hd, hu with
    | 0, hd, hu => cases hd; cases hu; exact h.out hh (hv 0 _ _ rfl rfl)
    | 1, hd, hu => cases hd; cases hu; exact k.out hh (hv 1 _ _ rfl rfl)
instance (l : Cx) (k : Nat) : Decidable (tooMany l k) := inferInstanceAs (Decidable (4096 < (allC l k).length))
theorem facesF_p (l : Cx) (k : Nat) (hk : 0 < k) (hg : ∀ s ∈ l, chkV s = 0) (hl : l.length ≤ 1000000) : Fn Tryz.prog 76 [dS Simps l, dI (k : Int)] (dT [dS Simps (if tooMany l k then [] else allC l k), dI (if tooMany l k then 17 else 0)]) :=
  Fn.ofC (faces_o l k hk hg hl) (by
    rintro d hp2 (⟨h, rfl, rfl⟩ | ⟨h, v, rfl, rfl⟩)
    · rw [if_pos h, if_pos h]; exact FinD.t2 (FinD.le Dat.le_nil) (FinD.le (Dat.le_refl _))
    · rw [if_neg h, if_neg h]; exact FinD.t2 (FinD.row (.head _)) (FinD.le (Dat.le_refl _)))
theorem simplices27_p (l : Cx) (k : Int) : Fn Tryz.prog 40 [dS Cpx l, dI k] (dT [dS Simps (simplC l k).1, dI (simplC l k).2]) := by
  (refine Fn.intro2 Tryz.func40 rfl rfl ?_; simp only [Tryz.ntmps40, List.length_cons, List.length_nil, Nat.reduceAdd, Nat.reduceSub, List.replicate_succ, List.replicate_zero, List.cons_append, List.nil_append])
  by_cases h0 : chkC l = 0
  · have hg := goodX_iff.1 h0
    by_cases hk : 1 ≤ k ∧ k ≤ 8
    · have hk' : ((k.toNat : Nat) : Int) = k := by omega
      have hc := facesF_p l k.toNat (by omega) hg.2.2.1 hg.len
      rw [hk'] at hc
      ((repeat' (first | (apply WL.opN; exact yF; dsimp only [setD, z0, z1]) | refine WL.nil ?_ | refine WC.seqK fun Kx hK => ?_ | (refine hK _ _ ?_; clear hK) | refine WC.region ?_ | (apply WL.opG; (focus (first | exact wN | (apply SYG.yes; (exact wY); ((first | (apply SY.call (check_p _) Tryz.call35; (exact aD)) | (apply SY.call (hc) Tryz.call76; (exact aD)) | exact yMove | exact yLss | exact yGtr | exact yNeq | exact yFieldaddr | exact yPick | exact yExtract | exact yBox | fail); all_goals infer_instance)))); dsimp only [setD, z0, z1]) | ((first | refine WL.caseP rfl rfl rfl (fun h => ?_) (fun h => ?_) | refine WL.caseN rfl rfl rfl (fun h => ?_) (fun h => ?_) | refine WL.caseB rfl rfl rfl (fun h => ?_) (fun h => ?_)) <;> (first | (exfalso; first | omega | contradiction) | (dsimp only [z0, z1]))) | (apply WC.condD; (exact oD); all_goals (intro h; try exact xD)) | (apply WC.condN; (exact oD); all_goals (intro h; try exact xD)) | refine WC.skip ?_ | refine WC.ret ?_)); all_goals (first | ((repeat clear hK); (repeat clear Kx))))
      unfold simplC; rw [if_neg (by omega), if_neg (by omega)]
      by_cases ht : tooMany l k.toNat
      · rw [if_pos ht, if_pos ht, if_pos (show 4096 < (allC l k.toNat).length from ht)]; (refine ⟨trivial, ⟨_, rfl, ?_⟩, _, rfl, ?_⟩ <;> exact fD)
      · rw [if_neg ht, if_neg ht, if_neg (show ¬ 4096 < (allC l k.toNat).length from ht)]; (refine ⟨trivial, ⟨_, rfl, ?_⟩, _, rfl, ?_⟩ <;> exact fD)
    · have e : simplC l k = ([], 2) := by unfold simplC; rw [if_neg (by omega), if_pos (by omega)]
      ((repeat' (first | (apply WL.opN; exact yF; dsimp only [setD, z0, z1]) | refine WL.nil ?_ | refine WC.seqK fun Kx hK => ?_ | (refine hK _ _ ?_; clear hK) | refine WC.region ?_ | (apply WL.opG; (focus (first | exact wN | (apply SYG.yes; (exact wY); ((first | (apply SY.call (check_p _) Tryz.call35; (exact aD)) | exact yMove | exact yLss | exact yGtr | exact yNeq | exact yPick | exact yBox | fail); all_goals infer_instance)))); dsimp only [setD, z0, z1]) | ((first | refine WL.caseP rfl rfl rfl (fun h => ?_) (fun h => ?_) | refine WL.caseN rfl rfl rfl (fun h => ?_) (fun h => ?_) | refine WL.caseB rfl rfl rfl (fun h => ?_) (fun h => ?_)) <;> (first | (exfalso; first | omega | contradiction) | (dsimp only [z0, z1]))) | (apply WC.condT; (exact oD); (with_reducible rfl)) | (apply WC.condD; (exact oD); all_goals (intro h; try exact xD)) | (apply WC.condN; (exact oD); all_goals (intro h; try exact xD)) | refine WC.skip ?_ | refine WC.ret ?_ | refine ThenD.r ?_)); all_goals (first | ((repeat clear hK); (repeat clear Kx))))
      all_goals (rw [e]; (refine ⟨trivial, ⟨_, rfl, ?_⟩, _, rfl, ?_⟩ <;> exact fD))
  · have e : simplC l k = ([], chkC l) := by unfold simplC; rw [if_pos h0]
    ((repeat' (first | (apply WL.opN; exact yF; dsimp only [setD, z0, z1]) | refine WL.nil ?_ | refine WC.seqK fun Kx hK => ?_ | (refine hK _ _ ?_; clear hK) | refine WC.region ?_ | (apply WL.opG; (focus (first | exact wN | (apply SYG.yes; (exact wY); ((first | (apply SY.call (check_p _) Tryz.call35; (exact aD)) | exact yNeq | exact yBox | fail); all_goals infer_instance)))); dsimp only [setD, z0, z1]) | (apply WC.condN; (exact oD); all_goals (intro h; try exact xD)) | refine WC.ret ?_ | refine ThenD.r ?_)); all_goals (first | ((repeat clear hK); (repeat clear Kx))))
    all_goals (rw [e]; (refine ⟨trivial, ⟨_, rfl, ?_⟩, _, rfl, ?_⟩ <;> exact fD))
theorem euler27_p (l : Cx) : Fn Tryz.prog 58 [dS Cpx l] (dT [dI (eulC l).1, dI (eulC l).2]) := by
  (refine Fn.intro2 Tryz.func58 rfl rfl ?_; simp only [Tryz.ntmps58, List.length_cons, List.length_nil, Nat.reduceAdd, Nat.reduceSub, List.replicate_succ, List.replicate_zero, List.cons_append, List.nil_append])
  by_cases h0 : chkC l = 0
  · have hg := goodX_iff.1 h0
    have g6 : ∀ k, (allC l k).length ≤ 2000000 := fun k => by
      have := allC_len l k l.length hg.short (Nat.le_refl _)
      rw [List.take_length] at this
      have := hg.1
      omega
    (repeat' (first | (apply WL.opN; exact yF; dsimp only [setD, z0, z1]) | refine WL.nil ?_ | refine WC.seqK fun Kx hK => ?_ | (refine hK _ _ ?_; clear hK) | refine WC.region ?_ | (apply WL.opN; (focus ((first | (apply SY.call (check_p _) Tryz.call35; (exact aD)) | exact yNeq | exact yBox | fail); all_goals infer_instance)); dsimp only [setD, z0, z1]) | (apply WC.condN; (exact oD); all_goals (intro h; try exact xD)) | refine WC.skip ?_ | refine WC.block ?_))
    (refine WC.loopU (X := Nat × Int) (fun x => [(6, dI ((x.1 : Int) + 1)), (5, dI x.2), (2, dA), (3, dA), (7, dA), (8, dA), (14, dA), (15, dA), (16, dA), (17, dA), (18, dA), (19, dA), (20, dA), (21, dA), (22, dA), (23, dA), (24, dA), (25, dA), (26, dA), (27, dA), (28, dA), (29, dA), (30, dA), (31, dA), (32, dA), (33, dA), (34, dA), (35, dA), (36, dA), (37, dA), (38, dA)]) (fun x => []) (fun x => 8 - x.1) (fun x => x.1 ≤ 8 ∧ x.2 = eulS l x.1 ∧ (List.range x.1).any (fun k => decide (4096 < (allC l (k + 1)).length)) = false) (0, 0) ?start ?frame0 ?objs0 ?round)
    case start => exact ⟨Nat.zero_le _, rfl, rfl⟩
    case frame0 => ((try dsimp only [upds, z0, z1]); repeat (first | exact LeF.nil | refine LeF.co (k := ?_)))
    case objs0 => rfl
    case round =>
      rintro ⟨k, m⟩ ⟨h1, h5, h2⟩
      simp only at h1 h2 h5
      have hc : Fn Tryz.prog 76 [dS Simps l, dI ((k : Int) + 1)] (dT [dS Simps (if tooMany l (k + 1) then [] else allC l (k + 1)), dI (if tooMany l (k + 1) then 17 else 0)]) := facesF_p l (k + 1) (by omega) hg.2.2.1 hg.len
      have h3 := eulS_le l g6 k
      rw [← h5] at h3
      have h4 := g6 (k + 1)
      dsimp only [upds, z0, z1]
      by_cases hk8 : k < 8
      · by_cases ht : tooMany l (k + 1)
        · rw [if_pos ht, if_pos ht] at hc
          ((repeat' (first | (apply WL.opN; exact yF; dsimp only [setD, z0, z1]) | refine WL.nil ?_ | refine WC.seqK fun Kx hK => ?_ | (refine hK _ _ ?_; clear hK) | refine WC.region ?_ | (apply WL.opN; (focus ((first | (apply SY.call (hc) Tryz.call76; (exact aD)) | exact yLeq | exact yNeq | exact yFieldaddr | exact yExtract | fail); all_goals infer_instance)); dsimp only [setD, z0, z1]) | (apply WC.condD; (exact oD); all_goals (intro h; try exact xD)) | (apply WC.condN; (exact oD); all_goals (intro h; try exact xD)) | refine WC.skip ?_ | refine WC.ret ?_ | refine WC.block ?_ | refine ThenD.r ?_ | refine InBlockD.r ?_)); all_goals (first | ((repeat clear hK); (repeat clear Kx))))
          unfold eulC
          rw [if_neg (by omega), if_pos (any_yes hk8 (decide_eq_true ht))]
          (refine ⟨trivial, ⟨_, rfl, ?_⟩, _, rfl, ?_⟩ <;> exact fD)
        · rw [if_neg ht, if_neg ht] at hc
          ((repeat' (first | (apply WL.opN; exact yF; dsimp only [setD, z0, z1]) | refine WL.nil ?_ | refine WC.seqK fun Kx hK => ?_ | (refine hK _ _ ?_; clear hK) | refine WC.region ?_ | (apply WL.opN; (focus ((first | (apply SY.call (hc) Tryz.call76; (exact aD)) | exact yLeq | exact yEql | exact yNeq | exact yAdd | exact ySub | exact yRem | exact yLen | exact yFieldaddr | exact yExtract | fail); all_goals infer_instance)); dsimp only [setD, z0, z1]) | (apply WC.condD; (exact oD); all_goals (intro h; try exact xD)) | (apply WC.condN; (exact oD); all_goals (intro h; try exact xD)) | refine WC.skip ?_ | refine WC.block ?_ | refine ThenD.n ?_)); all_goals (first | ((repeat clear hK); (repeat clear Kx))))
          · rw [tmod2] at h
            have h9 : (k + 1) % 2 = 1 := by omega
            (refine ⟨(k + 1, m + (allC l (k + 1)).length), ?_, by first | omega | (simp only; omega), rfl, ?_⟩; rotate_left; ((try dsimp only [upds, z0, z1]); repeat (first | exact LeF.nil | refine LeF.co (k := ?_))); (try dsimp only))
            refine ⟨by omega, ?_, ?_⟩
            · show _ = eulS l (k + 1)
              unfold eulS
              rw [if_pos h9, h5]
            · rw [any_snoc, h2, decide_eq_false (show ¬ 4096 < (allC l (k + 1)).length from ht)]; rfl
          · rw [tmod2] at h
            have h9 : ¬ (k + 1) % 2 = 1 := by omega
            (refine ⟨(k + 1, m - (allC l (k + 1)).length), ?_, by first | omega | (simp only; omega), rfl, ?_⟩; rotate_left; ((try dsimp only [upds, z0, z1]); repeat (first | exact LeF.nil | refine LeF.co (k := ?_))); (try dsimp only))
            refine ⟨by omega, ?_, ?_⟩
            · show _ = eulS l (k + 1)
              unfold eulS
              rw [if_neg h9, h5]
            · rw [any_snoc, h2, decide_eq_false (show ¬ 4096 < (allC l (k + 1)).length from ht)]; rfl
      · ((repeat' (first | (apply WL.opN; exact yF; dsimp only [setD, z0, z1]) | refine WL.nil ?_ | refine WC.seqK fun Kx hK => ?_ | (refine hK _ _ ?_; clear hK) | (refine Kont.skip ?_; clear hK) | refine WC.region ?_ | (apply WL.opN; (focus ((first | exact yLeq | fail); all_goals infer_instance)); dsimp only [setD, z0, z1]) | (apply WC.condD; (exact oD); all_goals (intro h; try exact xD)) | refine WC.ret ?_ | refine WC.exit ?_)); all_goals (first | ((repeat clear hK); (repeat clear Kx))))
        have h9 : k = 8 := by omega
        subst h9
        unfold eulC
        rw [if_neg (by omega), h2, if_neg Bool.false_ne_true, ← h5]
        (refine ⟨trivial, ⟨_, rfl, ?_⟩, _, rfl, ?_⟩ <;> exact fD)
  · have e : eulC l = (0, chkC l) := by unfold eulC; rw [if_pos h0]
    ((repeat' (first | (apply WL.opN; exact yF; dsimp only [setD, z0, z1]) | refine WL.nil ?_ | refine WC.seqK fun Kx hK => ?_ | (refine hK _ _ ?_; clear hK) | refine WC.region ?_ | (apply WL.opN; (focus ((first | (apply SY.call (check_p _) Tryz.call35; (exact aD)) | exact yNeq | exact yBox | fail); all_goals infer_instance)); dsimp only [setD, z0, z1]) | (apply WC.condN; (exact oD); all_goals (intro h; try exact xD)) | refine WC.ret ?_ | refine ThenD.r ?_)); all_goals (first | ((repeat clear hK); (repeat clear Kx))))
    all_goals (rw [e]; (refine ⟨trivial, ⟨_, rfl, ?_⟩, _, rfl, ?_⟩ <;> exact fD))
end Go.Proofs.YtjbepoofigokjaaGreat
